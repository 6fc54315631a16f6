/- Proved here: contracts of functions of this program, under the premises that each theorem names. -/
import Derived.Lib.TrailingZeros
import Derived.Test.YtnlgmaibhlicjaaGreatDoorYk
set_option maxRecDepth 4000
namespace Go.QM
open Go
def bmW (f : Nat → Bool) (k : Nat) : Nat := wv (fun j => f (64 * k + j)) 64
theorem bmW_lt (f : Nat → Bool) (k : Nat) : bmW f k < 2 ^ 64 := wv_lt _ 64
theorem bmW_bit (f : Nat → Bool) (k j : Nat) : (bmW f k).testBit j = (decide (j < 64) && f (64 * k + j)) := wv_bit _ 64 j
def bmC (f : Nat → Bool) (w : Nat) : List Value := (List.range w).map fun k => .int .u64 (bmW f k : Int)
theorem bmC_length (f : Nat → Bool) (w : Nat) : (bmC f w).length = w := by simp [bmC]
theorem bmC_get (f : Nat → Bool) {w k : Nat} (h : k < w) : (bmC f w)[k]? = some (.int .u64 (bmW f k : Int)) := by simp [bmC, h]
theorem bm_bit (f : Nat → Bool) (i : Nat) : bmW f (i / 64) / 2 ^ (i % 64) % 2 = if f i = true then 1 else 0 := by
  have h := bmW_bit f (i / 64) (i % 64)
  rw [Nat.testBit_eq_decide_div_mod_eq, decide_eq_true (Nat.mod_lt _ (by decide)), Bool.true_and, Nat.div_add_mod] at h
  cases hf : f i with
  | true => rw [hf] at h; rw [if_pos rfl]; exact of_decide_eq_true h
  | false => rw [hf] at h; have := of_decide_eq_false h; rw [if_neg (by decide)]; omega
def flipB (f : Nat → Bool) (i : Nat) : Nat → Bool := fun x => if x = i then !f x else f x
theorem bm_flip (f : Nat → Bool) (i : Nat) : bmW f (i / 64) ^^^ 2 ^ (i % 64) = bmW (flipB f i) (i / 64) := by
  apply Nat.eq_of_testBit_eq
  intro j
  rw [Nat.testBit_xor, bmW_bit, bmW_bit, Nat.testBit_two_pow, flipB]
  by_cases hj : j < 64
  · by_cases e : i % 64 = j
    · have e2 : 64 * (i / 64) + j = i := by omega
      rw [e2, if_pos rfl, decide_eq_true hj, decide_eq_true e]; simp
    · have e2 : 64 * (i / 64) + j ≠ i := by omega
      rw [if_neg e2, decide_eq_false e]; simp
  · have e : i % 64 ≠ j := by omega
    rw [decide_eq_false hj, decide_eq_false e]; rfl
theorem bm_flip_ne (f : Nat → Bool) {i k : Nat} (h : k ≠ i / 64) : bmW (flipB f i) k = bmW f k :=
  wv_ext fun j hj => by rw [flipB, if_neg (by omega)]
theorem bmC_flip (f : Nat → Bool) {i w : Nat} (h : i / 64 < w) : splice (i / 64) [.int .u64 ((bmW f (i / 64) ^^^ 2 ^ (i % 64) : Nat) : Int)] (bmC f w) = bmC (flipB f i) w := by
  have e : bmC (flipB f i) w = (bmC f w).set (i / 64) (.int .u64 ((bmW f (i / 64) ^^^ 2 ^ (i % 64) : Nat) : Int)) := by
    apply List.ext_getElem?
    intro j
    by_cases hj : j < w
    · rw [bmC_get _ hj, List.getElem?_set]
      by_cases e : i / 64 = j
      · subst e; rw [if_pos rfl, if_pos (by rw [bmC_length]; exact h), bm_flip]
      · rw [if_neg e, bmC_get _ hj, bm_flip_ne f (Ne.symm e)]
    · rw [List.getElem?_eq_none (by rw [bmC_length]; omega), List.getElem?_eq_none (by rw [List.length_set, bmC_length]; omega)]
  rw [e, List.set_eq_take_append_cons_drop, if_pos (by rw [bmC_length]; exact h)]
  simp [splice]
def onW (on : Bool) (x : Nat) : Nat := if on = true then x else 2 ^ 64 - 1 ^^^ x
theorem onW_lt {on : Bool} {x : Nat} (h : x < 2 ^ 64) : onW on x < 2 ^ 64 := by
  rw [onW]; split
  · exact h
  · exact Nat.xor_lt_two_pow (by decide) h
theorem onW_bit (on : Bool) (f : Nat → Bool) (k : Nat) {j : Nat} (hj : j < 64) : (onW on (bmW f k)).testBit j = (f (64 * k + j) == on) := by
  rw [onW]
  cases on with
  | true => rw [if_pos rfl, bmW_bit, decide_eq_true hj]; cases f (64 * k + j) <;> rfl
  | false => rw [if_neg (by decide), Nat.testBit_xor, Nat.testBit_two_pow_sub_one, bmW_bit, decide_eq_true hj]; cases f (64 * k + j) <;> rfl
theorem cut_bit {x s j : Nat} (hs : s < 64) (hj : j < 64) : (x / 2 ^ s * 2 ^ s % 2 ^ 64).testBit j = (decide (s ≤ j) && x.testBit j) := by
  rw [Nat.testBit_mod_two_pow, decide_eq_true hj, Bool.true_and, Nat.mul_comm, Nat.testBit_two_pow_mul]
  by_cases h : s ≤ j
  · rw [decide_eq_true h, Bool.true_and, Bool.true_and, Nat.testBit_div_two_pow, Nat.sub_add_cancel h]
  · rw [decide_eq_false h]; rfl
theorem ctz_bit {x : Nat} (h0 : x ≠ 0) (h : x < 2 ^ 64) : Lib.ctz 64 x < 64 ∧ x.testBit (Lib.ctz 64 x) = true ∧ ∀ j, j < Lib.ctz 64 x → x.testBit j = false := by
  obtain ⟨m, hm, hk⟩ := Lib.ctzFrom_spec 64 x (by omega) h
  have e : Lib.ctz 64 x = Lib.ctzFrom 64 x := by simp [Lib.ctz, h0]
  rw [e]
  generalize Lib.ctzFrom 64 x = c at hm hk
  subst hm
  refine ⟨hk, ?_, fun j hj => ?_⟩
  · rw [Nat.testBit_two_pow_mul, decide_eq_true (Nat.le_refl c), Nat.sub_self, Bool.true_and, Nat.testBit_zero]
    exact decide_eq_true (by omega)
  · rw [Nat.testBit_two_pow_mul, decide_eq_false (by omega)]; rfl
def IsFst (f : Nat → Bool) (on : Bool) (n o i : Nat) : Prop := o ≤ i ∧ i < n ∧ f i = on ∧ ∀ j, o ≤ j → j < i → f j ≠ on
def NoFst (f : Nat → Bool) (on : Bool) (n o : Nat) : Prop := ∀ j, o ≤ j → j < n → f j ≠ on
theorem word_none {f : Nat → Bool} {on : Bool} {k s : Nat} (hs : s < 64) (h : onW on (bmW f k) / 2 ^ s * 2 ^ s % 2 ^ 64 = 0) {j : Nat} (h1 : 64 * k + s ≤ j) (h2 : j < 64 * (k + 1)) : f j ≠ on := fun e => by
  have h3 := cut_bit (x := onW on (bmW f k)) hs (show j - 64 * k < 64 by omega)
  rw [h, Nat.zero_testBit, onW_bit on f k (by omega), show 64 * k + (j - 64 * k) = j by omega, decide_eq_true (by omega : s ≤ j - 64 * k), e] at h3
  cases on <;> cases h3
theorem word_first {f : Nat → Bool} {on : Bool} {k s : Nat} (hs : s < 64) (h : onW on (bmW f k) / 2 ^ s * 2 ^ s % 2 ^ 64 ≠ 0) :
    ∃ c, Lib.ctz 64 (onW on (bmW f k) / 2 ^ s * 2 ^ s % 2 ^ 64) = c ∧ c < 64 ∧ s ≤ c ∧ f (64 * k + c) = on ∧ ∀ j, 64 * k + s ≤ j → j < 64 * k + c → f j ≠ on := by
  obtain ⟨h1, h2, h3⟩ := ctz_bit h (Nat.mod_lt _ (by decide))
  refine ⟨_, rfl, h1, ?_⟩
  generalize Lib.ctz 64 (onW on (bmW f k) / 2 ^ s * 2 ^ s % 2 ^ 64) = c at h1 h2 h3
  rw [cut_bit hs h1, onW_bit on f k h1] at h2
  have h4 : s ≤ c := by
    by_cases e : s ≤ c
    · exact e
    · rw [decide_eq_false e] at h2; cases h2
  rw [decide_eq_true h4, Bool.true_and] at h2
  refine ⟨h4, by simpa using h2, fun j h5 h6 e => ?_⟩
  have h7 := h3 (j - 64 * k) (by omega)
  rw [cut_bit hs (by omega), onW_bit on f k (by omega), show 64 * k + (j - 64 * k) = j by omega, decide_eq_true (by omega : s ≤ j - 64 * k), e] at h7
  cases on <;> cases h7
end Go.QM
namespace Go.QM
abbrev FB := Nat → Nat → Bool
def covB (f : FB) (p : Nat) : Nat → Nat
  | 0 => 0
  | k + 1 => covB f p k + (f k (p / 2 ^ k)).toNat
def setB (f : FB) (k i : Nat) (v : Bool) : FB := fun k' i' => if k' = k ∧ i' = i then v else f k' i'
theorem cov_set (f : FB) (k i : Nat) (v : Bool) (p : Nat) : ∀ n, covB (setB f k i v) p n + (if k < n ∧ p / 2 ^ k = i then (f k i).toNat else 0) = covB f p n + (if k < n ∧ p / 2 ^ k = i then v.toNat else 0)
  | 0 => by simp [covB]
  | n + 1 => by
    have ih := cov_set f k i v p n
    rw [covB, covB, setB]
    by_cases e : n = k
    · subst e
      rw [if_neg (by omega), if_neg (by omega)] at ih
      by_cases e2 : p / 2 ^ n = i
      · rw [if_pos ⟨rfl, e2⟩, if_pos ⟨by omega, e2⟩, if_pos ⟨by omega, e2⟩, e2]; omega
      · rw [if_neg (fun h => e2 h.2), if_neg (fun h => e2 h.2), if_neg (fun h => e2 h.2)]; omega
    · rw [if_neg (fun h => e h.1)]
      by_cases e2 : p / 2 ^ k = i
      · by_cases e3 : k < n
        · rw [if_pos ⟨e3, e2⟩, if_pos ⟨e3, e2⟩] at ih
          rw [if_pos ⟨by omega, e2⟩, if_pos ⟨by omega, e2⟩]; omega
        · rw [if_neg (fun h => e3 h.1), if_neg (fun h => e3 h.1)] at ih
          rw [if_neg (fun h => e3 (by omega)), if_neg (fun h => e3 (by omega))]; omega
      · rw [if_neg (fun h => e2 h.2), if_neg (fun h => e2 h.2)] at ih
        rw [if_neg (fun h => e2 h.2), if_neg (fun h => e2 h.2)]; omega
theorem cov_zero {f : FB} {p k : Nat} : ∀ {n : Nat}, covB f p n = 0 → k < n → f k (p / 2 ^ k) = false
  | 0, _, h => by omega
  | n + 1, h, hk => by
    rw [covB] at h
    by_cases e : k = n
    · subst e
      cases hf : f k (p / 2 ^ k) with
      | false => rfl
      | true => rw [hf] at h; simp at h
    · exact cov_zero (n := n) (by omega) (by omega)
theorem cov_none {f : FB} {p : Nat} : ∀ {n : Nat}, (∀ k, k < n → f k (p / 2 ^ k) = false) → covB f p n = 0
  | 0, _ => rfl
  | n + 1, h => by rw [covB, cov_none fun k hk => h k (by omega), h n (by omega)]; rfl
theorem cov_one {f : FB} {p k : Nat} {n : Nat} (h : f k (p / 2 ^ k) = true) (hk : k < n) : covB f p n ≠ 0 := fun e => by
  rw [cov_zero e hk] at h; cases h
theorem div_succ (p k : Nat) : p / 2 ^ (k + 1) = p / 2 ^ k / 2 := by rw [Nat.pow_succ, Nat.div_div_eq_div_mul]
theorem mul_div_pow (i k : Nat) : i * 2 ^ k / 2 ^ k = i := Nat.mul_div_cancel i (Nat.two_pow_pos k)
theorem lt_top {i k top : Nat} (hk : k ≤ top) (hi : i < 2 ^ (top - k)) : i * 2 ^ k < 2 ^ top := by
  have e : 2 ^ top = 2 ^ (top - k) * 2 ^ k := by rw [← Nat.pow_add]; congr 1; omega
  rw [e]; exact Nat.mul_lt_mul_of_pos_right hi (Nat.two_pow_pos k)
theorem half_pow {k top : Nat} (hk : k < top) : 2 ^ (top - k) = 2 * 2 ^ (top - (k + 1)) := by
  rw [show top - k = (top - (k + 1)) + 1 by omega, Nat.pow_succ, Nat.mul_comm]
structure BInv (f : FB) (top : Nat) (U : List Nat) : Prop where
  bd : ∀ k i, f k i = true → k ≤ top ∧ i < 2 ^ (top - k)
  cv : ∀ p, p < 2 ^ top → covB f p (top + 1) = if p ∈ U then 0 else 1
  nd : U.Nodup
  lt : ∀ p ∈ U, p < 2 ^ top
structure BHole (f : FB) (top : Nat) (U : List Nat) (k i : Nat) : Prop where
  kt : k ≤ top
  it : i < 2 ^ (top - k)
  bd : ∀ k i, f k i = true → k ≤ top ∧ i < 2 ^ (top - k)
  cv : ∀ p, p < 2 ^ top → covB f p (top + 1) = if p ∈ U ∨ p / 2 ^ k = i then 0 else 1
  nd : U.Nodup
  lt : ∀ p ∈ U, p < 2 ^ top
  ni : ∀ p, p / 2 ^ k = i → p ∉ U
theorem bd_set {f : FB} {top : Nat} (bd : ∀ k i, f k i = true → k ≤ top ∧ i < 2 ^ (top - k)) {k i : Nat} {v : Bool} (h : v = true → k ≤ top ∧ i < 2 ^ (top - k)) :
    ∀ k' i', setB f k i v k' i' = true → k' ≤ top ∧ i' < 2 ^ (top - k') := fun k' i' h' => by
  rw [setB] at h'
  split at h'
  · rename_i e; obtain ⟨rfl, rfl⟩ := e; exact h h'
  · exact bd k' i' h'
theorem sub_len {l m : List Nat} (hn : l.Nodup) (h : ∀ x ∈ l, x ∈ m) : l.length ≤ m.length := by
  induction l generalizing m with
  | nil => exact Nat.zero_le _
  | cons x l ih =>
    obtain ⟨h1, h2⟩ := List.nodup_cons.1 hn
    have hx : x ∈ m := h x (by simp)
    have := ih (m := m.erase x) h2 fun y hy => (List.mem_erase_of_ne (fun e : y = x => h1 (e ▸ hy))).2 (h y (by simp [hy]))
    rw [List.length_erase_of_mem hx] at this
    have := List.length_pos_of_mem hx
    rw [List.length_cons]; omega
theorem BInv.none {f : FB} {top : Nat} {U : List Nat} (h : BInv f top U) (hn : ∀ k, k ≤ top → ∀ i, i < 2 ^ (top - k) → f k i = false) : 2 ^ top ≤ U.length := by
  have := sub_len (l := List.range (2 ^ top)) (m := U) List.nodup_range fun p hp => by
    have hp := List.mem_range.1 hp
    have h1 := h.cv p hp
    rw [cov_none fun k hk => ?_] at h1
    · by_cases e : p ∈ U
      · exact e
      · rw [if_neg e] at h1; cases h1
    · cases hf : f k (p / 2 ^ k) with
      | false => rfl
      | true => obtain ⟨a, b⟩ := h.bd _ _ hf; rw [hn k a _ b] at hf; cases hf
  simpa using this
theorem BInv.take {f : FB} {top : Nat} {U : List Nat} (h : BInv f top U) {k i : Nat} (hf : f k i = true) : BHole (setB f k i false) top U k i := by
  obtain ⟨a, b⟩ := h.bd _ _ hf
  have key : ∀ p, p < 2 ^ top → p / 2 ^ k = i → p ∉ U ∧ covB f p (top + 1) = 1 := fun p hp e => by
    have h1 := h.cv p hp
    by_cases e2 : p ∈ U
    · rw [if_pos e2] at h1; exact absurd h1 (cov_one (k := k) (by rw [e]; exact hf) (by omega))
    · rw [if_neg e2] at h1; exact ⟨e2, h1⟩
  refine ⟨a, b, bd_set h.bd (fun h => by cases h), fun p hp => ?_, h.nd, h.lt, fun p e hu => (key p (h.lt p hu) e).1 hu⟩
  have h1 := cov_set f k i false p (top + 1)
  by_cases e : p / 2 ^ k = i
  · rw [if_pos ⟨by omega, e⟩, if_pos ⟨by omega, e⟩, hf, (key p hp e).2] at h1
    rw [if_pos (.inr e)]; simpa using h1
  · rw [if_neg (fun h => e h.2), if_neg (fun h => e h.2), h.cv p hp] at h1
    simp only [e, or_false]; simpa using h1
theorem BHole.split {f : FB} {top : Nat} {U : List Nat} {k i : Nat} (h : BHole f top U (k + 1) i) : f k (2 * i + 1) = false ∧ BHole (setB f k (2 * i + 1) true) top U k (2 * i) := by
  have hk := h.kt
  have hi := h.it
  have hp := half_pow (k := k) (top := top) (by omega)
  have hlt : (2 * i + 1) * 2 ^ k < 2 ^ top := lt_top (by omega) (by omega)
  have hz : f k (2 * i + 1) = false := by
    have h1 := h.cv _ hlt
    have e : (2 * i + 1) * 2 ^ k / 2 ^ (k + 1) = i := by rw [div_succ, mul_div_pow]; omega
    rw [if_pos (.inr e)] at h1
    have := cov_zero h1 (k := k) (by omega)
    rwa [mul_div_pow] at this
  refine ⟨hz, by omega, by omega, bd_set h.bd fun _ => by omega, fun p hp2 => ?_, h.nd, h.lt, fun p e => h.ni p (by rw [div_succ, e]; omega)⟩
  have h1 := cov_set f k (2 * i + 1) true p (top + 1)
  have h2 := h.cv p hp2
  rw [div_succ] at h2
  rw [hz] at h1
  by_cases e : p / 2 ^ k = 2 * i + 1
  · have hu : p ∉ U := h.ni p (by rw [div_succ, e]; omega)
    rw [if_pos ⟨by omega, e⟩, if_pos ⟨by omega, e⟩, h2, if_pos (.inr (by omega))] at h1
    rw [if_neg (show ¬ (p ∈ U ∨ p / 2 ^ k = 2 * i) from fun h => h.elim hu (fun h => by omega))]; simpa using h1
  · rw [if_neg (fun h => e h.2), if_neg (fun h => e h.2)] at h1
    rw [show covB (setB f k (2 * i + 1) true) p (top + 1) = covB f p (top + 1) by simpa using h1, h2]
    by_cases e2 : p ∈ U
    · rw [if_pos (.inl e2), if_pos (.inl e2)]
    · by_cases e3 : p / 2 ^ k = 2 * i
      · rw [if_pos (show p ∈ U ∨ p / 2 ^ k / 2 = i from .inr (by omega)), if_pos (.inr e3)]
      · rw [if_neg (show ¬ (p ∈ U ∨ p / 2 ^ k / 2 = i) from fun h => h.elim e2 (fun h => by omega)), if_neg (show ¬ (p ∈ U ∨ p / 2 ^ k = 2 * i) from fun h => h.elim e2 e3)]
theorem BHole.done {f : FB} {top : Nat} {U : List Nat} {i : Nat} (h : BHole f top U 0 i) : i < 2 ^ top ∧ i ∉ U ∧ BInv f top (i :: U) := by
  have hi : i < 2 ^ top := h.it
  have hn : i ∉ U := h.ni i (by simp)
  refine ⟨hi, hn, h.bd, fun p hp => ?_, List.nodup_cons.2 ⟨hn, h.nd⟩, fun p hp => ?_⟩
  · rw [h.cv p hp]
    simp only [Nat.pow_zero, Nat.div_one, List.mem_cons, or_comm]
  · rcases List.mem_cons.1 hp with rfl | hp
    · exact hi
    · exact h.lt p hp
theorem BInv.give {f : FB} {top : Nat} {U : List Nat} (h : BInv f top U) {p0 : Nat} (hm : p0 ∈ U) : BHole f top (U.erase p0) 0 p0 := by
  refine ⟨Nat.zero_le _, h.lt p0 hm, h.bd, fun p hp => ?_, h.nd.erase _, fun p hp => h.lt p (List.mem_of_mem_erase hp), fun p e => ?_⟩
  · rw [h.cv p hp]
    simp only [Nat.pow_zero, Nat.div_one]
    by_cases e : p = p0
    · rw [if_pos (e ▸ hm), if_pos (.inr e)]
    · simp only [List.mem_erase_of_ne e, e, or_false]
  · simp only [Nat.pow_zero, Nat.div_one] at e
    subst e; exact fun h2 => (List.Nodup.mem_erase_iff h.nd).1 h2 |>.1 rfl
theorem xor1_div (i : Nat) : (i ^^^ 1) / 2 = i / 2 := by rw [Nat.xor_div_two]; simp
theorem xor1_ne (i : Nat) : (i ^^^ 1) ≠ i := fun h => by
  have h2 := congrArg (fun x => x.testBit 0) h
  simp only [Nat.testBit_xor] at h2
  cases hi : i.testBit 0 <;> rw [hi] at h2 <;> simp at h2
theorem BHole.merge {f : FB} {top : Nat} {U : List Nat} {k i : Nat} (h : BHole f top U k i) (hk : k < top) (hf : f k (i ^^^ 1) = true) : BHole (setB f k (i ^^^ 1) false) top U (k + 1) (i / 2) := by
  have hp := half_pow hk
  have hi := h.it
  obtain ⟨h3, h4⟩ := h.bd _ _ hf
  have hb : ∀ p, p / 2 ^ (k + 1) = i / 2 ↔ p / 2 ^ k = i ∨ p / 2 ^ k = i ^^^ 1 := fun p => by
    rw [div_succ]
    have h1 := xor1_div i
    have h2 := xor1_ne i
    generalize i ^^^ 1 = j at h1 h2
    omega
  have key : ∀ p, p < 2 ^ top → p / 2 ^ k = i ^^^ 1 → p ∉ U ∧ covB f p (top + 1) = 1 := fun p hp e => by
    have h1 := h.cv p hp
    have hz : covB f p (top + 1) ≠ 0 := cov_one (k := k) (by rw [e]; exact hf) (by omega)
    by_cases e2 : p ∈ U ∨ p / 2 ^ k = i
    · rw [if_pos e2] at h1; exact absurd h1 hz
    · rw [if_neg e2] at h1; exact ⟨fun h => e2 (.inl h), h1⟩
  refine ⟨by omega, by omega, bd_set h.bd (fun h => by cases h), fun p hp2 => ?_, h.nd, h.lt, fun p e hu => ?_⟩
  · have h1 := cov_set f k (i ^^^ 1) false p (top + 1)
    by_cases e : p / 2 ^ k = i ^^^ 1
    · rw [if_pos ⟨by omega, e⟩, if_pos ⟨by omega, e⟩, hf, (key p hp2 e).2] at h1
      rw [if_pos (.inr ((hb p).2 (.inr e)))]; simpa using h1
    · rw [if_neg (fun h => e h.2), if_neg (fun h => e h.2), h.cv p hp2] at h1
      rw [show covB (setB f k (i ^^^ 1) false) p (top + 1) = _ from h1]
      simp only [hb, e, or_false, Nat.add_zero]
  · rcases (hb p).1 e with e | e
    · exact h.ni p e hu
    · exact (key p (h.lt p hu) e).1 hu
theorem BHole.fill {f : FB} {top : Nat} {U : List Nat} {k i : Nat} (h : BHole f top U k i) : f k i = false ∧ BInv (setB f k i true) top U := by
  have hk := h.kt
  have hz : f k i = false := by
    have h1 := h.cv _ (lt_top h.kt h.it)
    rw [if_pos (.inr (mul_div_pow i k))] at h1
    have := cov_zero h1 (k := k) (by omega)
    rwa [mul_div_pow] at this
  refine ⟨hz, bd_set h.bd fun _ => ⟨h.kt, h.it⟩, fun p hp => ?_, h.nd, h.lt⟩
  have h1 := cov_set f k i true p (top + 1)
  rw [hz] at h1
  by_cases e : p / 2 ^ k = i
  · rw [if_pos ⟨by omega, e⟩, if_pos ⟨by omega, e⟩, h.cv p hp, if_pos (.inr e)] at h1
    rw [if_neg (h.ni p e)]; simpa using h1
  · rw [if_neg (fun h => e h.2), if_neg (fun h => e h.2), h.cv p hp] at h1
    simp only [e, or_false] at h1; simpa using h1
def f0B (top : Nat) : FB := fun k i => decide (k = top ∧ i = 0)
theorem BInv.init (top : Nat) : BInv (f0B top) top [] := by
  have h1 := (BHole.fill (f := fun _ _ => false) (top := top) (U := []) (k := top) (i := 0)
    ⟨Nat.le_refl _, Nat.two_pow_pos _, fun _ _ h => (by cases h), fun p hp => (by rw [cov_none fun _ _ => rfl, if_pos (.inr (Nat.div_eq_of_lt hp))]), List.nodup_nil, fun _ h => (by cases h), fun _ _ h => (by cases h)⟩).2
  have e : setB (fun _ _ => false) top 0 true = f0B top := by
    funext k i; rw [setB, f0B]; by_cases h : k = top ∧ i = 0
    · rw [if_pos h, decide_eq_true h]
    · rw [if_neg h, decide_eq_false h]
  rwa [e] at h1
end Go.QM
namespace Go.QM
def cntF (f : Nat → Bool) : Nat → Nat
  | 0 => 0
  | n + 1 => cntF f n + (f n).toNat
theorem cntF_congr {f g : Nat → Bool} : ∀ {n : Nat}, (∀ i, i < n → f i = g i) → cntF f n = cntF g n
  | 0, _ => rfl
  | n + 1, h => by rw [cntF, cntF, cntF_congr fun i hi => h i (by omega), h n (by omega)]
theorem cntF_on {f : Nat → Bool} {i : Nat} : ∀ {n : Nat}, f i = false → i < n → cntF (flipB f i) n = cntF f n + 1
  | 0, _, h => by omega
  | n + 1, hf, h => by
    rw [cntF, cntF]
    by_cases e : i = n
    · subst e
      rw [cntF_congr (f := flipB f i) (g := f) fun j hj => by rw [flipB, if_neg (by omega)], flipB, if_pos rfl, hf]; rfl
    · rw [cntF_on hf (by omega), flipB, if_neg (fun h => e h.symm)]; omega
theorem flipB_flip (f : Nat → Bool) (i : Nat) : flipB (flipB f i) i = f := by
  funext j; rw [flipB]; split
  · rename_i h; subst h; rw [flipB, if_pos rfl, Bool.not_not]
  · rename_i h; rw [flipB, if_neg h]
theorem flipB_same (f : Nat → Bool) (i : Nat) : flipB f i i = !f i := if_pos rfl
theorem cntF_off {f : Nat → Bool} {i n : Nat} (hf : f i = true) (h : i < n) : cntF (flipB f i) n + 1 = cntF f n := by
  have := cntF_on (f := flipB f i) (i := i) (n := n) (by rw [flipB_same, hf]; rfl) h
  rw [flipB_flip] at this; exact this.symm
theorem cntF_zero {f : Nat → Bool} : ∀ {n : Nat}, cntF f n = 0 ↔ ∀ i, i < n → f i = false
  | 0 => ⟨fun _ i h => by omega, fun _ => rfl⟩
  | n + 1 => by
    rw [cntF, Nat.add_eq_zero_iff, cntF_zero]
    constructor
    · rintro ⟨h1, h2⟩ i hi
      by_cases e : i = n
      · subst e; cases hf : f i with
        | false => rfl
        | true => rw [hf] at h2; cases h2
      · exact h1 i (by omega)
    · exact fun h => ⟨fun i hi => h i (by omega), by rw [h n (by omega)]; rfl⟩
theorem cntF_full {f : Nat → Bool} : ∀ {n : Nat}, (∀ i, i < n → f i = true) → cntF f n = n
  | 0, _ => rfl
  | n + 1, h => by rw [cntF, cntF_full fun i hi => h i (by omega), h n (by omega)]; rfl
theorem cntF_one {n : Nat} (h : 0 < n) : cntF (fun j => decide (j = 0)) n = 1 := by
  have := cntF_on (f := fun _ => false) (i := 0) (n := n) rfl h
  rw [cntF_zero.2 fun _ _ => rfl] at this
  refine (cntF_congr fun i _ => ?_).trans this
  rw [flipB]; split
  · rename_i e; rw [decide_eq_true e]; rfl
  · rename_i e; exact decide_eq_false e
structure Pg where
  pn : Nat
  f : Nat → Bool
def usedC (many : Nat) : List Pg → Nat
  | [] => 0
  | p :: L => cntF p.f many + usedC many L
theorem usedC_app (many : Nat) : ∀ L M : List Pg, usedC many (L ++ M) = usedC many L + usedC many M
  | [], M => by simp [usedC]
  | p :: L, M => by rw [List.cons_append, usedC, usedC, usedC_app many L M]; omega
def fullP (many : Nat) (p : Pg) : Prop := ∀ i, i < many → p.f i = true
def OneAt (many : Nat) (L : List Pg) (q : Nat) : Prop := ∀ p ∈ L, p.pn ≠ q → fullP many p
structure CInv (many : Nat) (L : List Pg) : Prop where
  srt : L.Pairwise fun a b => a.pn < b.pn
  bd : ∀ p ∈ L, ∀ i, p.f i = true → i < many
theorem used_full {many : Nat} : ∀ {L : List Pg}, (∀ p ∈ L, fullP many p) → usedC many L = many * L.length
  | [], _ => rfl
  | p :: L, h => by rw [usedC, used_full fun q hq => h q (by simp [hq]), cntF_full (h p (by simp)), List.length_cons, Nat.mul_succ, Nat.add_comm]
theorem len_one {many q : Nat} : ∀ {L : List Pg}, CInv many L → OneAt many L q → many * L.length ≤ usedC many L + many
  | [], _, _ => Nat.zero_le _
  | p :: L, h, h1 => by
    obtain ⟨h2, h3⟩ := List.pairwise_cons.1 h.srt
    rw [usedC, List.length_cons, Nat.mul_succ]
    by_cases e : p.pn = q
    · have := used_full (many := many) (L := L) fun r hr => h1 r (by simp [hr]) (by have := h2 r hr; omega)
      omega
    · have h4 := len_one (L := L) ⟨h3, fun r hr => h.bd r (by simp [hr])⟩ (fun r hr => h1 r (by simp [hr]))
      have := cntF_full (h1 p (by simp) e)
      omega
inductive Got (many : Nat) (L L' : List Pg) (pn i : Nat) : Prop
  | old (A B : List Pg) (f : Nat → Bool) (h1 : L = A ++ ⟨pn, f⟩ :: B) (h2 : L' = A ++ ⟨pn, flipB f i⟩ :: B) (h3 : f i = false) (h4 : i < many)
  | new (A B : List Pg) (h1 : L = A ++ B) (h2 : L' = A ++ ⟨pn, fun j => decide (j = 0)⟩ :: B) (h3 : i = 0) (h4 : ∀ p ∈ L, fullP many p) (h5 : ∀ p ∈ A, p.pn < pn) (h6 : ∀ p ∈ B, pn < p.pn)
theorem pw_mid {A B : List Pg} {p q : Pg} (h : (A ++ p :: B).Pairwise fun a b => a.pn < b.pn) (e : p.pn = q.pn) : (A ++ q :: B).Pairwise fun a b => a.pn < b.pn := by
  rw [List.pairwise_append, List.pairwise_cons] at h ⊢
  obtain ⟨h1, ⟨h2, h3⟩, h4⟩ := h
  refine ⟨h1, ⟨fun a ha => e ▸ h2 a ha, h3⟩, fun a ha b hb => ?_⟩
  rcases List.mem_cons.1 hb with rfl | hb
  · rw [← e]; exact h4 a ha p (by simp)
  · exact h4 a ha b (by simp [hb])
theorem pw_del {A B : List Pg} {p : Pg} (h : (A ++ p :: B).Pairwise fun a b => a.pn < b.pn) : (A ++ B).Pairwise (fun a b => a.pn < b.pn) ∧ ∀ a ∈ A ++ B, a.pn ≠ p.pn := by
  rw [List.pairwise_append, List.pairwise_cons] at h
  obtain ⟨h1, ⟨h2, h3⟩, h4⟩ := h
  refine ⟨List.pairwise_append.2 ⟨h1, h3, fun a ha b hb => h4 a ha b (by simp [hb])⟩, fun a ha => ?_⟩
  rcases List.mem_append.1 ha with ha | ha
  · have := h4 a ha p (by simp); omega
  · have := h2 a ha; omega
theorem pw_ins {A B : List Pg} {p : Pg} (h : (A ++ B).Pairwise fun a b => a.pn < b.pn) (hA : ∀ a ∈ A, a.pn < p.pn) (hB : ∀ b ∈ B, p.pn < b.pn) : (A ++ p :: B).Pairwise fun a b => a.pn < b.pn := by
  rw [List.pairwise_append] at h
  obtain ⟨h1, h2, h3⟩ := h
  refine List.pairwise_append.2 ⟨h1, List.pairwise_cons.2 ⟨hB, h2⟩, fun a ha b hb => ?_⟩
  rcases List.mem_cons.1 hb with rfl | hb
  · exact hA a ha
  · exact h3 a ha b hb
theorem Got.inv {many pn i : Nat} {L L' : List Pg} (g : Got many L L' pn i) (h : CInv many L) (hm : 0 < many) : CInv many L' := by
  cases g with
  | old A B f h1 h2 h3 h4 =>
    subst h1; subst h2
    refine ⟨pw_mid h.srt rfl, fun p hp j hj => ?_⟩
    rcases List.mem_append.1 hp with hp | hp
    · exact h.bd p (by simp [hp]) j hj
    rcases List.mem_cons.1 hp with rfl | hp
    · dsimp only [flipB] at hj
      split at hj
      · omega
      · exact h.bd ⟨pn, f⟩ (by simp) j hj
    · exact h.bd p (by simp [hp]) j hj
  | new A B h1 h2 h3 h4 h5 h6 =>
    subst h1; subst h2
    refine ⟨pw_ins h.srt h5 h6, fun p hp j hj => ?_⟩
    rcases List.mem_append.1 hp with hp | hp
    · exact h.bd p (by simp [hp]) j hj
    rcases List.mem_cons.1 hp with rfl | hp
    · have := of_decide_eq_true hj; omega
    · exact h.bd p (by simp [hp]) j hj
theorem Got.used {many pn i : Nat} {L L' : List Pg} (g : Got many L L' pn i) (hm : 0 < many) : usedC many L' = usedC many L + 1 := by
  cases g with
  | old A B f h1 h2 h3 h4 =>
    subst h1; subst h2
    have := cntF_on h3 h4
    rw [usedC_app, usedC_app, usedC, usedC]; dsimp only; omega
  | new A B h1 h2 h3 h4 h5 h6 =>
    subst h1; subst h2
    have := cntF_one hm
    rw [usedC_app, usedC_app, usedC]; dsimp only; omega
theorem Got.one {many pn i q : Nat} {L L' : List Pg} (g : Got many L L' pn i) (h : CInv many L) (h1 : OneAt many L q) : OneAt many L' pn := by
  cases g with
  | old A B f e1 e2 h3 h4 =>
    subst e1; subst e2
    have hq : pn = q := by
      by_cases e : pn = q
      · exact e
      · have := h1 ⟨pn, f⟩ (by simp) e i h4; dsimp only at this; rw [h3] at this; cases this
    subst hq
    intro p hp hne
    rcases List.mem_append.1 hp with hp | hp
    · exact h1 p (by simp [hp]) hne
    rcases List.mem_cons.1 hp with rfl | hp
    · exact absurd rfl hne
    · exact h1 p (by simp [hp]) hne
  | new A B e1 e2 h3 h4 h5 h6 =>
    subst e1; subst e2
    intro p hp hne
    rcases List.mem_append.1 hp with hp | hp
    · exact h4 p (by simp [hp])
    rcases List.mem_cons.1 hp with rfl | hp
    · exact absurd rfl hne
    · exact h4 p (by simp [hp])
inductive Gave (many : Nat) (L L' : List Pg) (pn i : Nat) : Prop
  | stay (A B : List Pg) (f : Nat → Bool) (h1 : L = A ++ ⟨pn, f⟩ :: B) (h2 : L' = A ++ ⟨pn, flipB f i⟩ :: B) (h3 : f i = true)
  | gone (A B : List Pg) (f : Nat → Bool) (h1 : L = A ++ ⟨pn, f⟩ :: B) (h2 : L' = A ++ B) (h3 : f i = true) (h4 : ∀ j, j < many → j ≠ i → f j = false)
theorem Gave.inv {many pn i : Nat} {L L' : List Pg} (g : Gave many L L' pn i) (h : CInv many L) : CInv many L' := by
  cases g with
  | stay A B f h1 h2 h3 =>
    subst h1; subst h2
    refine ⟨pw_mid h.srt rfl, fun p hp j hj => ?_⟩
    rcases List.mem_append.1 hp with hp | hp
    · exact h.bd p (by simp [hp]) j hj
    rcases List.mem_cons.1 hp with rfl | hp
    · dsimp only [flipB] at hj
      split at hj
      · rename_i e; subst e; rw [h3] at hj; cases hj
      · exact h.bd ⟨pn, f⟩ (by simp) j hj
    · exact h.bd p (by simp [hp]) j hj
  | gone A B f h1 h2 h3 h4 =>
    subst h1; subst h2
    exact ⟨(pw_del h.srt).1, fun p hp => h.bd p (by rcases List.mem_append.1 hp with hp | hp <;> simp [hp])⟩
theorem Gave.used {many pn i : Nat} {L L' : List Pg} (g : Gave many L L' pn i) (h : CInv many L) : usedC many L' + 1 = usedC many L := by
  cases g with
  | stay A B f h1 h2 h3 =>
    subst h1; subst h2
    have := cntF_off h3 (h.bd ⟨pn, f⟩ (by simp) i h3)
    rw [usedC_app, usedC_app, usedC, usedC]; dsimp only; omega
  | gone A B f h1 h2 h3 h4 =>
    subst h1; subst h2
    have hi := h.bd ⟨pn, f⟩ (by simp) i h3
    have := cntF_off (n := many) h3 hi
    have hz : cntF (flipB f i) many = 0 := cntF_zero.2 fun j hj => by
      rw [flipB]; split
      · rename_i e; subst e; rw [h3]; rfl
      · rename_i e; exact h4 j hj e
    rw [usedC_app, usedC_app, usedC]; dsimp only; omega
theorem Gave.one {many pn i : Nat} {L L' : List Pg} (g : Gave many L L' pn i) (h1 : OneAt many L pn) : OneAt many L' pn := by
  cases g with
  | stay A B f e1 e2 h3 =>
    subst e1; subst e2
    intro p hp hne
    rcases List.mem_append.1 hp with hp | hp
    · exact h1 p (by simp [hp]) hne
    rcases List.mem_cons.1 hp with rfl | hp
    · exact absurd rfl hne
    · exact h1 p (by simp [hp]) hne
  | gone A B f e1 e2 h3 h4 =>
    subst e1; subst e2
    intro p hp hne
    exact h1 p (by rcases List.mem_append.1 hp with hp | hp <;> simp [hp]) hne
def Plc (sz : Nat) (L : List Pg) (a : Nat) : Prop := ∃ p ∈ L, ∃ i, p.f i = true ∧ a = p.pn * 1024 + 64 + i * sz
theorem Plc.at {sz a : Nat} {L : List Pg} (h : Plc sz L a) : ∃ (k pn i : Nat) (f : Nat → Bool), L[k]? = some ⟨pn, f⟩ ∧ f i = true ∧ a = pn * 1024 + 64 + i * sz := by
  obtain ⟨⟨pn, f⟩, hp, i, h1, h2⟩ := h
  obtain ⟨k, hk⟩ := List.getElem?_of_mem hp
  exact ⟨k, pn, i, f, hk, h1, h2⟩
theorem Got.plc {many pn i sz : Nat} {L L' : List Pg} (g : Got many L L' pn i) (hs : 0 < sz) (a : Nat) : Plc sz L' a ↔ Plc sz L a ∨ a = pn * 1024 + 64 + i * sz := by
  cases g with
  | old A B f h1 h2 h3 h4 =>
    subst h1; subst h2
    constructor
    · rintro ⟨p, hp, j, hj, e⟩
      rcases List.mem_append.1 hp with hp | hp
      · exact .inl ⟨p, by simp [hp], j, hj, e⟩
      rcases List.mem_cons.1 hp with rfl | hp
      · dsimp only [flipB] at hj e
        split at hj
        · rename_i e2; subst e2; exact .inr e
        · exact .inl ⟨⟨pn, f⟩, by simp, j, hj, e⟩
      · exact .inl ⟨p, by simp [hp], j, hj, e⟩
    · rintro (⟨p, hp, j, hj, e⟩ | e)
      · rcases List.mem_append.1 hp with hp | hp
        · exact ⟨p, by simp [hp], j, hj, e⟩
        rcases List.mem_cons.1 hp with rfl | hp
        · refine ⟨⟨pn, flipB f i⟩, by simp, j, ?_, e⟩
          dsimp only [flipB] at hj ⊢
          rw [if_neg (fun e2 => by subst e2; rw [h3] at hj; cases hj)]; exact hj
        · exact ⟨p, by simp [hp], j, hj, e⟩
      · exact ⟨⟨pn, flipB f i⟩, by simp, i, by dsimp only; rw [flipB_same, h3]; rfl, e⟩
  | new A B h1 h2 h3 h4 h5 h6 =>
    subst h1; subst h2; subst h3
    constructor
    · rintro ⟨p, hp, j, hj, e⟩
      rcases List.mem_append.1 hp with hp | hp
      · exact .inl ⟨p, by simp [hp], j, hj, e⟩
      rcases List.mem_cons.1 hp with rfl | hp
      · have := of_decide_eq_true hj; subst this; exact .inr e
      · exact .inl ⟨p, by simp [hp], j, hj, e⟩
    · rintro (⟨p, hp, j, hj, e⟩ | e)
      · exact ⟨p, by rcases List.mem_append.1 hp with hp | hp <;> simp [hp], j, hj, e⟩
      · exact ⟨⟨pn, fun j => decide (j = 0)⟩, by simp, 0, show decide ((0 : Nat) = 0) = true from rfl, e⟩
theorem Gave.plc {many pn i sz : Nat} {L L' : List Pg} (g : Gave many L L' pn i) (h : CInv many L) (hs : 0 < sz) {a : Nat} (ha : Plc sz L a) (hne : a ≠ pn * 1024 + 64 + i * sz) : Plc sz L' a := by
  obtain ⟨p, hp, j, hj, e⟩ := ha
  cases g with
  | stay A B f h1 h2 h3 =>
    subst h1; subst h2
    rcases List.mem_append.1 hp with hp | hp
    · exact ⟨p, by simp [hp], j, hj, e⟩
    rcases List.mem_cons.1 hp with rfl | hp
    · refine ⟨⟨pn, flipB f i⟩, by simp, j, ?_, e⟩
      dsimp only [flipB] at hj ⊢
      rw [if_neg (fun e2 => by subst e2; exact hne e)]; exact hj
    · exact ⟨p, by simp [hp], j, hj, e⟩
  | gone A B f h1 h2 h3 h4 =>
    subst h1; subst h2
    rcases List.mem_append.1 hp with hp | hp
    · exact ⟨p, by simp [hp], j, hj, e⟩
    rcases List.mem_cons.1 hp with rfl | hp
    · by_cases e2 : j = i
      · subst e2; exact absurd e hne
      · have := h4 j (h.bd _ (by simp) j hj) e2; dsimp only at hj; rw [this] at hj; cases hj
    · exact ⟨p, by simp [hp], j, hj, e⟩
end Go.QM
namespace Go.QM
open Go
theorem bvN {a : Nat} (h : a < 2 ^ 64) : (BitVec.ofInt 64 (a : Int)).toNat = a := by
  rw [BitVec.ofInt_natCast, BitVec.toNat_ofNat]; exact Nat.mod_eq_of_lt h
theorem wN {a : Nat} (h : a < 2 ^ 63) : IntKind.i64.wrap (a : Int) = (a : Int) := wi64 (by omega) (by omega)
theorem wU {a : Nat} (h : a < 2 ^ 64) : IntKind.u64.wrap (a : Int) = (a : Int) := wu64 (by omega) (by omega)
theorem w8 (a : Nat) : IntKind.u8.wrap (a : Int) = ((a % 256 : Nat) : Int) := by simp [IntKind.wrap, IntKind.signed, IntKind.bits]
theorem and_i64 {a b : Nat} (ha : a < 2 ^ 63) (hb : b < 2 ^ 63) : IntKind.i64.wrap (BitVec.ofInt IntKind.i64.bits (a : Int) &&& BitVec.ofInt IntKind.i64.bits (b : Int)).toNat = ((a &&& b : Nat) : Int) := by
  rw [BitVec.toNat_and, show IntKind.i64.bits = 64 from rfl, bvN (by omega), bvN (by omega)]
  exact wN (Nat.and_lt_two_pow _ hb)
theorem or_i64 {a b : Nat} (ha : a < 2 ^ 63) (hb : b < 2 ^ 63) : IntKind.i64.wrap (BitVec.ofInt IntKind.i64.bits (a : Int) ||| BitVec.ofInt IntKind.i64.bits (b : Int)).toNat = ((a ||| b : Nat) : Int) := by
  rw [BitVec.toNat_or, show IntKind.i64.bits = 64 from rfl, bvN (by omega), bvN (by omega)]
  exact wN (Nat.or_lt_two_pow ha hb)
theorem xor_i64 {a b : Nat} (ha : a < 2 ^ 63) (hb : b < 2 ^ 63) : IntKind.i64.wrap (BitVec.ofInt IntKind.i64.bits (a : Int) ^^^ BitVec.ofInt IntKind.i64.bits (b : Int)).toNat = ((a ^^^ b : Nat) : Int) := by
  rw [BitVec.toNat_xor, show IntKind.i64.bits = 64 from rfl, bvN (by omega), bvN (by omega)]
  exact wN (Nat.xor_lt_two_pow ha hb)
section
variable {P : Program} {ρ : Env} {A : HP} {d : Option Nat} {ty : TypeId} {ps : String} {af : Array Edge} {g : Option (Nat × Bool)} {t t' : TypeId} {x y : Operand} {a b c n : Nat}
theorem OQ.to {o : Oper} {k : IntKind} {u v : Int} (h : OQ P ρ o A (.int k u)) (e : u = v) : OQ P ρ o A (.int k v) := by rwa [e] at h
theorem maxI {u v : Int} {tys : Array TypeId} (hx : ev ρ x = .int .i64 u) (hy : ev ρ y = .int .i64 v) :
    OQ P ρ ⟨d, .call ⟨.builtin .max, #[x, y], tys⟩, ty, ps, af, g⟩ A (.int .i64 (max u v)) :=
  fun w _ => by
    by_cases h : u ≤ v
    · by_cases h2 : u = v
      · subst h2; simp [execOp, resolve, invoke, builtin, Builtin.max_, Builtin.max2, hx, hy]
      · have h3 : u < v := by omega
        simp [execOp, resolve, invoke, builtin, Builtin.max_, Builtin.max2, hx, hy, h3, Int.max_eq_right h]
    · have h3 : ¬ u < v := by omega
      simp [execOp, resolve, invoke, builtin, Builtin.max_, Builtin.max2, hx, hy, h3, Int.max_eq_left (by omega : v ≤ u)]
theorem andI (hx : ev ρ x = .int .i64 (a : Int)) (hy : ev ρ y = .int .i64 (b : Int)) (ha : a < 2 ^ 63) (hb : b < 2 ^ 63) (hc : a &&& b = c) :
    OQ P ρ ⟨d, .binOp .and t x y t', ty, ps, af, g⟩ A (.int .i64 (c : Int)) := by subst hc; exact andR hx hy (and_i64 ha hb)
theorem orI (hx : ev ρ x = .int .i64 (a : Int)) (hy : ev ρ y = .int .i64 (b : Int)) (ha : a < 2 ^ 63) (hb : b < 2 ^ 63) (hc : a ||| b = c) :
    OQ P ρ ⟨d, .binOp .or t x y t', ty, ps, af, g⟩ A (.int .i64 (c : Int)) := by subst hc; exact orR hx hy (or_i64 ha hb)
theorem xorI (hx : ev ρ x = .int .i64 (a : Int)) (hy : ev ρ y = .int .i64 (b : Int)) (ha : a < 2 ^ 63) (hb : b < 2 ^ 63) (hc : a ^^^ b = c) :
    OQ P ρ ⟨d, .binOp .xor t x y t', ty, ps, af, g⟩ A (.int .i64 (c : Int)) := fun w _ => by
  have h := xor_i64 ha hb
  rw [hc] at h
  simp [execOp, hx, hy, eqGuard, binOp, Op.intBits]
  simpa using h
theorem shlI {yk : IntKind} (hx : ev ρ x = .int .i64 (a : Int)) (hy : ev ρ y = .int yk (n : Int)) (hn : n ≤ 64) (hc : a * 2 ^ n = c) (hl : c < 2 ^ 63) :
    OQ P ρ ⟨d, .binOp .shl t x y t', ty, ps, af, g⟩ A (.int .i64 (c : Int)) :=
  shlR hx hy (by omega) (by
    subst hc
    rw [show min ((n : Int)).toNat IntKind.i64.bits = n from Nat.min_eq_left hn]
    have e : (a : Int) * 2 ^ n = ((a * 2 ^ n : Nat) : Int) := by simp
    rw [e]; exact wN hl)
theorem shrU {yk : IntKind} (hx : ev ρ x = .int .u64 (a : Int)) (hy : ev ρ y = .int yk (n : Int)) (ha : a < 2 ^ 64) (hc : a / 2 ^ n = c) :
    OQ P ρ ⟨d, .binOp .shr t x y t', ty, ps, af, g⟩ A (.int .u64 (c : Int)) := by subst hc; exact shrN hx hy ha
theorem andU (hx : ev ρ x = .int .u64 (a : Int)) (hy : ev ρ y = .int .u64 (b : Int)) (ha : a < 2 ^ 64) (hb : b < 2 ^ 64) (hc : a &&& b = c) :
    OQ P ρ ⟨d, .binOp .and t x y t', ty, ps, af, g⟩ A (.int .u64 (c : Int)) := by subst hc; exact andN hx hy ha hb
theorem orU (hx : ev ρ x = .int .u64 (a : Int)) (hy : ev ρ y = .int .u64 (b : Int)) (ha : a < 2 ^ 64) (hb : b < 2 ^ 64) (hc : a ||| b = c) :
    OQ P ρ ⟨d, .binOp .or t x y t', ty, ps, af, g⟩ A (.int .u64 (c : Int)) := by subst hc; exact orN hx hy ha hb
theorem xorU (hx : ev ρ x = .int .u64 (a : Int)) (hy : ev ρ y = .int .u64 (b : Int)) (ha : a < 2 ^ 64) (hb : b < 2 ^ 64) (hc : a ^^^ b = c) :
    OQ P ρ ⟨d, .binOp .xor t x y t', ty, ps, af, g⟩ A (.int .u64 (c : Int)) := by subst hc; exact xorN hx hy ha hb
theorem addU (hx : ev ρ x = .int .u64 (a : Int)) (hy : ev ρ y = .int .u64 (b : Int)) (hc : a + b = c) (h : c < 2 ^ 64) :
    OQ P ρ ⟨d, .binOp .add t x y t', ty, ps, af, g⟩ A (.int .u64 (c : Int)) :=
  add hx hy (by subst hc; rw [show (a : Int) + (b : Int) = ((a + b : Nat) : Int) by simp]; exact wU h)
theorem mulU (hx : ev ρ x = .int .u64 (a : Int)) (hy : ev ρ y = .int .u64 (b : Int)) (hc : a * b % 2 ^ 64 = c) :
    OQ P ρ ⟨d, .binOp .mul t x y t', ty, ps, af, g⟩ A (.int .u64 (c : Int)) :=
  mul hx hy (by subst hc; rw [show (a : Int) * (b : Int) = ((a * b : Nat) : Int) by simp, IntKind.wrap_u64]; simp)
theorem shlU {yk : IntKind} (hx : ev ρ x = .int .u64 (a : Int)) (hy : ev ρ y = .int yk (n : Int)) (hn : n ≤ 64) (hc : a * 2 ^ n % 2 ^ 64 = c) :
    OQ P ρ ⟨d, .binOp .shl t x y t', ty, ps, af, g⟩ A (.int .u64 (c : Int)) := by subst hc; exact shlN hx hy hn
theorem negU (hx : ev ρ x = .int .u64 (a : Int)) (h0 : a ≠ 0) (h : a < 2 ^ 64) :
    OQ P ρ ⟨d, .unOp .neg t x, ty, ps, af, g⟩ A (.int .u64 ((2 ^ 64 - a : Nat) : Int)) :=
  neg hx (by rw [IntKind.wrap_u64]; omega)
end
end Go.QM
namespace Go.QM
open Go
theorem ld_step {m : Nat → Nat} (h : byteOK m) (o : Nat) {k : Nat} (hk : k < 8) : ldB m o k ||| (m (o + k) * 2 ^ (8 * k) % 2 ^ 64) = ldB m o (k + 1) := by
  have h1 := ldB_lt h o k
  have h2 := h (o + k)
  have h3 : m (o + k) * 2 ^ (8 * k) < 2 ^ 64 := by
    have e : (2 : Nat) ^ 64 = 2 ^ (64 - 8 * k) * 2 ^ (8 * k) := by rw [← Nat.pow_add]; congr 1; omega
    rw [e]
    have h4 : 2 ^ 8 ≤ 2 ^ (64 - 8 * k) := Nat.pow_le_pow_right (by decide) (by omega)
    exact Nat.mul_lt_mul_of_pos_right (Nat.lt_of_lt_of_le h2 h4) (Nat.two_pow_pos _)
  rw [Nat.mod_eq_of_lt h3, or_byte h1, ldB]
def stL (m : Nat → Nat) (o : Nat) (L : List Nat) (k : Nat) : Nat → Nat := fun i => if o ≤ i ∧ i < o + k then L.getD ((i - o) / 8) 0 / 2 ^ (8 * ((i - o) % 8)) % 256 else m i
def stWs (m : Nat → Nat) (o : Nat) (L : List Nat) : Nat → Nat := stL m o L (8 * L.length)
theorem stL_zero (m : Nat → Nat) (o : Nat) (L : List Nat) : stL m o L 0 = m := funext fun i => by rw [stL, if_neg (by omega)]
theorem stL_snoc (m : Nat → Nat) (o : Nat) (L : List Nat) (k : Nat) : stL m o L (k + 1) = fun i => if i = o + k then L.getD (k / 8) 0 / 2 ^ (8 * (k % 8)) % 256 else stL m o L k i := by
  funext i
  rw [stL, stL]
  by_cases e : i = o + k
  · subst e; rw [if_pos (by omega), if_pos rfl, Nat.add_sub_cancel_left]
  · rw [if_neg e]
    by_cases h : o ≤ i ∧ i < o + k
    · rw [if_pos (by omega), if_pos h]
    · rw [if_neg (by omega), if_neg h]
theorem stL_ok {m : Nat → Nat} (h : byteOK m) (o : Nat) (L : List Nat) (k : Nat) : byteOK (stL m o L k) := fun i => by
  rw [stL]; split
  · exact Nat.mod_lt _ (by decide)
  · exact h i
theorem stWs_ne {m : Nat → Nat} {o o' : Nat} {L : List Nat} (h : o' + 8 ≤ o ∨ o + 8 * L.length ≤ o') : ldW (stWs m o L) o' = ldW m o' :=
  ldB_congr fun i h1 h2 => by rw [stWs, stL, if_neg (by omega)]
theorem stWs_at {m : Nat → Nat} {o j v : Nat} {L : List Nat} (hj : L[j]? = some v) (hv : v < 2 ^ 64) : ldW (stWs m o L) (o + 8 * j) = v := by
  have hl := (List.getElem?_eq_some_iff.1 hj).1
  have e : ldW (stWs m o L) (o + 8 * j) = ldW (stW m (o + 8 * j) v) (o + 8 * j) := ldB_congr fun i h1 h2 => by
    rw [stWs, stL, if_pos (by omega), stW, stB, if_pos (by omega)]
    have e1 : (i - o) / 8 = j := by omega
    have e2 : (i - o) % 8 = i - (o + 8 * j) := by omega
    rw [e1, e2, List.getD_eq_getElem?_getD, hj]; rfl
  rw [e, ldW_stW _ _ hv]
section
variable {r : Option Nat} {P : Program} {N : Nat} {ops : Array Oper} {l : List Oper} {Q : Post} {ρ : Env} {ds : List Deferred} {A : HP} {K : Value → HP → Prop}
variable {d : Option Tmp} {ty : TypeId} {ps : String} {af : Array Edge} {g : Option (Nat × Bool)}
variable {t t' : TypeId} {x y z : Operand}
theorem slP (E sz : Nat) {bl off n cap i j : Nat} (ht : slcT P t E sz = true) (hx : ev ρ x = .slice (some ⟨bl, off, none⟩) n cap) (hy : ev ρ y = .int .i64 (i : Int)) (hz : ev ρ z = .int .i64 (j : Int)) (h1 : i ≤ j) (h2 : j ≤ cap) (h3 : i < cap) :
    OQ P ρ ⟨d, .slice t x (some y) (some z) none, ty, ps, af, g⟩ A (.slice (some ⟨bl, off + i * sz, none⟩) (j - i) (cap - i)) := by
  have h := slFT (P := P) (A := A) (d := d) (ty := ty) (ps := ps) (af := af) (g := g) E sz ht hx hy hz (by omega) (by omega) (by omega)
  have e : sliceOff (some (⟨bl, off, none⟩ : Addr)) cap (i : Int).toNat sz = some ⟨bl, off + i * sz, none⟩ := by
    rw [sliceOff, if_neg (by omega)]; simp [addr_add]
  rw [e] at h
  simpa using h
theorem mkP {hs : List HP} {E n : Nat} {z : Value} (bytes : Nat) (ht : slcT P t E 1 = true) (hel : elT P E 1 bytes = true) (hz : zeroT P E = some z) (hz1 : z.cells = #[z]) (hx : ev ρ x = .int .i64 (n : Int)) (hy : ev ρ y = .int .i64 (n : Int)) (hb : bytes * n ≤ 281474976710656) (hm : n ≤ maxLen)
    (k : ∀ b, K (.slice (some ⟨b, 0, none⟩) n n) (sepL (pts b E (List.replicate n z) :: hs))) : OW r P ρ ⟨d, .makeSlice t x y, ty, ps, af, g⟩ (sepL hs) K := by
  obtain ⟨inf, z', hinf, hz', hsz, hby, hzc⟩ := elT_run hel
  have hzz : z' = z := by simp only [zeroT, hinf, Option.bind_some, hz'] at hz; cases hz; rfl
  subst hzz
  have hml : maxLen = 9223372036854775807 := rfl
  have hw : IntKind.i64.wrap (n : Int) = n := wi64 (by omega) (by omega)
  have hrow : ((Array.range n).map ((if n = 0 then #[] else z'.cells)[· % (if n = 0 then (#[] : Array Value) else z'.cells).size]!)) = (List.replicate n z').toArray := by
    by_cases h0 : n = 0
    · apply Array.ext
      · simp [h0]
      · intro i h1 h2; simp [h0] at h1
    · apply Array.ext
      · simp
      · intro i h1 h2
        simp [h0, hz1, Nat.mod_one]
  have hbn : ((inf.bytes : Int) * (n : Int)) ≤ 281474976710656 := by
    rw [hby, ← Int.natCast_mul]; omega
  have htl : (decide ((n : Int) < 0) || decide ((inf.bytes : Int) * (n : Int) > 2 ^ 48)) = false := by
    have h48 : (2 : Int) ^ 48 = 281474976710656 := by decide
    rw [h48]
    simp only [Bool.or_eq_false_iff, decide_eq_false_iff_not]
    omega
  refine OW.run rfl fun w hsat => ⟨.slice (some ⟨w.heap.size, 0, none⟩) n n, w.alloc (.cells (List.replicate n z').toArray E), _, .inl ?_, ⟨rfl, rfl, rfl, by simp⟩, sat_alloc _ hsat, k w.heap.size⟩
  have hzv : ∀ w, (zeroValue E).run P w = .ok z' w := fun w => by simp [zeroValue, typeInfo, hinf, hz']
  simp only [execOp, Instr.makeSlice, Sem.run_bind, slcT_run ht, Result.andThen_ok, hx, hy, asInt, asIntOf, Sem.run_pure, typeInfo, run_program, hinf, hw, htl]
  rw [if_neg (by simp)]
  simp only [Sem.run_bind, run_askRoom, slcT_run ht, Result.andThen_ok, Int.toNat_natCast, Nat.mul_one]
  by_cases h0 : n = 0
  · rw [if_pos h0]
    simp only [if_pos h0] at hrow
    simp only [Sem.run_bind, Result.andThen_ok, Sem.run_pure, hrow, newRow, run_newObj]
    rfl
  · rw [if_neg h0]
    simp only [if_neg h0] at hrow
    simp only [Sem.run_bind, Result.andThen_ok, Sem.run_pure, hzv, hrow, newRow, run_newObj]
    rfl
end
theorem by_zero (n : Nat) : byC (fun _ => 0) n = List.replicate n (.int .u8 0) := by
  rw [byC, List.eq_replicate_iff]
  exact ⟨by simp, fun v hv => by obtain ⟨k, _, rfl⟩ := List.mem_map.1 hv; rfl⟩
theorem RdS_mid (b E o k : Nat) (l : List Value) : RdS (pts b E l) E (some ⟨b, o, none⟩) ((l.drop o).take k) := fun h hh => by
  by_cases ho : o ≤ l.length
  · refine .inr ⟨⟨b, o, none⟩, l.take o, (l.drop o).drop k, (0, 0), rfl, by simp [Nat.min_eq_left ho], ?_⟩
    have e : l.take o ++ (l.drop o).take k ++ (l.drop o).drop k = l := by rw [List.append_assoc, List.take_append_drop, List.take_append_drop]
    rw [hh, e]; simp
  · left; rw [List.drop_eq_nil_of_le (by omega)]; simp
end Go.QM
namespace Go.QM
open Go
def ofBy : List Nat → Nat
  | [] => 0
  | a :: l => a + 256 * ofBy l
theorem and_by {a b c d : Nat} (ha : a < 256) (hc : c < 256) : (a + 256 * b) &&& (c + 256 * d) = (a &&& c) + 256 * (b &&& d) := by
  have h1 : (a + 256 * b) &&& (c + 256 * d) = ((a + 256 * b) &&& (c + 256 * d)) % 2 ^ 8 + 2 ^ 8 * (((a + 256 * b) &&& (c + 256 * d)) / 2 ^ 8) := (Nat.mod_add_div _ _).symm
  rw [h1, Nat.and_mod_two_pow, Nat.and_div_two_pow]
  have e1 : (a + 256 * b) % 2 ^ 8 = a := by omega
  have e2 : (c + 256 * d) % 2 ^ 8 = c := by omega
  have e3 : (a + 256 * b) / 2 ^ 8 = b := by omega
  have e4 : (c + 256 * d) / 2 ^ 8 = d := by omega
  rw [e1, e2, e3, e4]
def bys (x : Nat) : Nat → List Nat
  | 0 => []
  | n + 1 => x % 256 :: bys (x / 256) n
theorem bys_of : ∀ {n x : Nat}, x < 256 ^ n → ofBy (bys x n) = x
  | 0, x, h => by have : x = 0 := by simpa using h
                  subst this; rfl
  | n + 1, x, h => by
    have : x / 256 < 256 ^ n := by rw [Nat.pow_succ] at h; exact Nat.div_lt_of_lt_mul (by omega)
    rw [bys, ofBy, bys_of this]; omega
theorem bys_len : ∀ (n x : Nat), (bys x n).length = n
  | 0, _ => rfl
  | n + 1, x => by rw [bys, List.length_cons, bys_len n]
theorem bys_lt : ∀ (n x : Nat), ∀ a ∈ bys x n, a < 256
  | 0, _, _, h => by cases h
  | n + 1, x, a, h => by
    rcases List.mem_cons.1 h with rfl | h
    · exact Nat.mod_lt _ (by decide)
    · exact bys_lt n _ a h
theorem and_ofBy {m : Nat} (hm : m < 256) : ∀ {l : List Nat}, (∀ a ∈ l, a < 256) → ofBy l &&& ofBy (l.map fun _ => m) = ofBy (l.map fun a => a &&& m)
  | [], _ => by simp [ofBy]
  | a :: l, h => by
    rw [List.map_cons, List.map_cons, ofBy, ofBy, ofBy, and_by (h a (by simp)) hm, and_ofBy hm fun b hb => h b (by simp [hb])]
theorem shr_ofBy {m s : Nat} (hm : m < 256) (hs : s ≤ 8) (hms : m < 2 ^ (8 - s)) : ∀ {l : List Nat}, (∀ a ∈ l, a < 256) → ofBy l / 2 ^ s &&& ofBy (l.map fun _ => m) = ofBy (l.map fun a => a / 2 ^ s &&& m)
  | [], _ => by simp [ofBy]
  | a :: l, h => by
    have ha := h a (by simp)
    have ih := shr_ofBy hm hs hms (l := l) fun b hb => h b (by simp [hb])
    rw [List.map_cons, List.map_cons, ofBy, ofBy, ofBy, ← ih]
    have hp : 2 ^ (8 - s) * 2 ^ s = 256 := by rw [← Nat.pow_add, Nat.sub_add_cancel hs]
    have hp2 : 0 < 2 ^ s := Nat.two_pow_pos s
    generalize ofBy l = x
    generalize ofBy (l.map fun _ => m) = y
    have e1 : (a + 256 * x) / 2 ^ s = a / 2 ^ s + 2 ^ (8 - s) * x := by
      rw [show a + 256 * x = a + 2 ^ s * (2 ^ (8 - s) * x) by rw [← Nat.mul_assoc, Nat.mul_comm (2 ^ s), hp], Nat.add_mul_div_left _ _ hp2]
    have e2 : (a / 2 ^ s + 2 ^ (8 - s) * x) = (a / 2 ^ s + 2 ^ (8 - s) * (x % 2 ^ s)) + 256 * (x / 2 ^ s) := by
      have h3 := Nat.mod_add_div x (2 ^ s)
      have h4 : 2 ^ (8 - s) * x = 2 ^ (8 - s) * (x % 2 ^ s) + 256 * (x / 2 ^ s) := by
        conv => lhs; rw [← h3]
        rw [Nat.mul_add, ← Nat.mul_assoc, hp]
      omega
    have hlt : a / 2 ^ s < 2 ^ (8 - s) := Nat.div_lt_of_lt_mul (by rw [Nat.mul_comm, hp]; exact ha)
    have hx : x % 2 ^ s < 2 ^ s := Nat.mod_lt _ hp2
    have hb : a / 2 ^ s + 2 ^ (8 - s) * (x % 2 ^ s) < 256 := by
      have : 2 ^ (8 - s) * (x % 2 ^ s) ≤ 2 ^ (8 - s) * (2 ^ s - 1) := Nat.mul_le_mul_left _ (by omega)
      have h5 : 2 ^ (8 - s) * (2 ^ s - 1) = 256 - 2 ^ (8 - s) := by rw [Nat.mul_sub, hp, Nat.mul_one]
      have h6 : 2 ^ (8 - s) ≤ 2 ^ 8 := Nat.pow_le_pow_right (by decide) (by omega)
      rw [h5] at this
      generalize 2 ^ (8 - s) * (x % 2 ^ s) = k at this ⊢
      generalize 2 ^ (8 - s) = dd at this hlt h6
      generalize a / 2 ^ s = aa at hlt ⊢
      omega
    rw [e1, e2, and_by hb hm]
    congr 1
    apply Nat.eq_of_testBit_eq
    intro j
    rw [Nat.testBit_and, Nat.testBit_and]
    by_cases hj : j < 8 - s
    · congr 1
      rw [Nat.add_comm, Nat.testBit_two_pow_mul_add _ hlt, if_pos hj]
    · have : m.testBit j = false := Nat.testBit_lt_two_pow (Nat.lt_of_lt_of_le hms (Nat.pow_le_pow_right (by decide) (by omega)))
      rw [this, Bool.and_false, Bool.and_false]
theorem add_ofBy (f g : Nat → Nat) : ∀ l : List Nat, ofBy (l.map f) + ofBy (l.map g) = ofBy (l.map fun a => f a + g a)
  | [] => rfl
  | a :: l => by rw [List.map_cons, List.map_cons, List.map_cons, ofBy, ofBy, ofBy, ← add_ofBy f g l]; omega
def p1 (v : Nat) : Nat := (v / 2 ^ 1 &&& 85) + (v &&& 85)
def p2 (v : Nat) : Nat := (v / 2 ^ 2 &&& 51) + (v &&& 51)
def p3 (v : Nat) : Nat := (v / 2 ^ 4 + v) &&& 15
def pc (v : Nat) : Nat := p3 (p2 (p1 v))
def pcOK (v : Nat) : Bool := decide (p1 v < 256) && decide (p2 (p1 v) < 256) && decide (p2 (p1 v) / 16 ≤ 4 ∧ p2 (p1 v) % 16 ≤ 4) && decide (pc v ≤ 8) && (decide (pc v = 0) == decide (v = 0))
theorem pc_tab : (List.range 256).all pcOK = true := by kernel_rfl
theorem pc_all {v : Nat} (h : v < 256) : p1 v < 256 ∧ p2 (p1 v) < 256 ∧ (p2 (p1 v) / 16 ≤ 4 ∧ p2 (p1 v) % 16 ≤ 4) ∧ pc v ≤ 8 ∧ (pc v = 0 ↔ v = 0) := by
  have h1 := List.all_eq_true.1 pc_tab v (List.mem_range.2 h)
  simp only [pcOK, Bool.and_eq_true, decide_eq_true_eq, beq_iff_eq, decide_eq_decide] at h1
  obtain ⟨⟨⟨⟨a, b⟩, c⟩, d⟩, e⟩ := h1
  exact ⟨a, b, c, d, e⟩
theorem nib_ofBy : ∀ {l : List Nat}, (∀ a ∈ l, a < 256 ∧ a / 16 ≤ 4 ∧ a % 16 ≤ 4) → (ofBy l / 2 ^ 4 + ofBy l) &&& ofBy (l.map fun _ => 15) = ofBy (l.map p3) ∧ ofBy l % 16 ≤ 4
  | [], _ => by simp [ofBy]
  | a :: l, h => by
    obtain ⟨h1, h2, h3⟩ := h a (by simp)
    obtain ⟨ih, hy⟩ := nib_ofBy (l := l) fun b hb => h b (by simp [hb])
    rw [List.map_cons, List.map_cons, ofBy, ofBy, ofBy, ← ih]
    generalize ofBy l = y at hy ⊢
    have e : (a + 256 * y) / 2 ^ 4 + (a + 256 * y) = (a / 16 + a + 16 * (y % 16)) + 256 * (y / 2 ^ 4 + y) := by omega
    refine ⟨?_, by omega⟩
    rw [e, and_by (by omega) (by decide)]
    congr 1
    rw [p3, show 15 = 2 ^ 4 - 1 from rfl, Nat.and_two_pow_sub_one_eq_mod, Nat.and_two_pow_sub_one_eq_mod]
    omega
def oc1 (x : Nat) : Nat := (x / 2 ^ 1 &&& 6148914691236517205) + (x &&& 6148914691236517205)
def oc2 (x : Nat) : Nat := (x / 2 ^ 2 &&& 3689348814741910323) + (x &&& 3689348814741910323)
def oc3 (x : Nat) : Nat := (x / 2 ^ 4 + x) &&& 1085102592571150095
def oc4 (x : Nat) : Nat := x + x / 2 ^ 8
def oc5 (x : Nat) : Nat := x + x / 2 ^ 16
def oc6 (x : Nat) : Nat := x + x / 2 ^ 32
def oc (x : Nat) : Nat := oc6 (oc5 (oc4 (oc3 (oc2 (oc1 x))))) &&& 127
theorem eight {l : List Nat} (h : l.length = 8) : ∃ a b c d e f g i, l = [a, b, c, d, e, f, g, i] := by
  match l, h with
  | [a, b, c, d, e, f, g, i], _ => exact ⟨a, b, c, d, e, f, g, i, rfl⟩
theorem mask8 {l : List Nat} (h : l.length = 8) (m : Nat) : (l.map fun _ => m) = [m, m, m, m, m, m, m, m] := by
  obtain ⟨a, b, c, d, e, f, g, i, rfl⟩ := eight h; rfl
theorem by_shr {a : Nat} (y : Nat) (h : a < 256) : (a + 256 * y) / 256 = y := by omega
theorem by_top {s q : Nat} (h : s ≤ 64) : (s + 256 * q) &&& 127 = s := by
  rw [show 127 = 2 ^ 7 - 1 from rfl, Nat.and_two_pow_sub_one_eq_mod]; omega
theorem oc_sum {a b c d e f g i : Nat} (ha : a ≤ 8) (hb : b ≤ 8) (hc : c ≤ 8) (hd : d ≤ 8) (he : e ≤ 8) (hf : f ≤ 8) (hg : g ≤ 8) (hi : i ≤ 8) {x : Nat} (hx : x = a + 256 * (b + 256 * (c + 256 * (d + 256 * (e + 256 * (f + 256 * (g + 256 * i))))))) :
    (x + x / 2 ^ 8 + (x + x / 2 ^ 8) / 2 ^ 16 + (x + x / 2 ^ 8 + (x + x / 2 ^ 8) / 2 ^ 16) / 2 ^ 32) &&& 127 = a + b + c + d + e + f + g + i := by
  have h0 : x / 2 ^ 8 = b + 256 * (c + 256 * (d + 256 * (e + 256 * (f + 256 * (g + 256 * i))))) := by rw [hx]; exact by_shr _ (by omega)
  have h1 : x + x / 2 ^ 8 = (a + b) + 256 * ((b + c) + 256 * ((c + d) + 256 * ((d + e) + 256 * ((e + f) + 256 * ((f + g) + 256 * ((g + i) + 256 * i)))))) := by rw [h0, hx]; omega
  generalize x + x / 2 ^ 8 = y at h1 ⊢
  clear h0 hx
  have h2 : y / 2 ^ 16 = (c + d) + 256 * ((d + e) + 256 * ((e + f) + 256 * ((f + g) + 256 * ((g + i) + 256 * i)))) := by
    rw [show (2 : Nat) ^ 16 = 256 * 256 from rfl, ← Nat.div_div_eq_div_mul, h1, by_shr _ (by omega), by_shr _ (by omega)]
  have h3 : y + y / 2 ^ 16 = (a + b + c + d) + 256 * ((b + c + d + e) + 256 * ((c + d + e + f) + 256 * ((d + e + f + g) + 256 * ((e + f + g + i) + 256 * ((f + g + i) + 256 * ((g + i) + 256 * i)))))) := by rw [h2, h1]; omega
  generalize y + y / 2 ^ 16 = z at h3 ⊢
  clear h1 h2
  have h4 : z / 2 ^ 32 = (e + f + g + i) + 256 * ((f + g + i) + 256 * ((g + i) + 256 * i)) := by
    rw [show (2 : Nat) ^ 32 = 256 * 256 * 256 * 256 from rfl, ← Nat.div_div_eq_div_mul, ← Nat.div_div_eq_div_mul, ← Nat.div_div_eq_div_mul, h3, by_shr _ (by omega), by_shr _ (by omega), by_shr _ (by omega), by_shr _ (by omega)]
  have h5 : z + z / 2 ^ 32 = (a + b + c + d + e + f + g + i) + 256 * ((b + c + d + e + f + g + i) + 256 * ((c + d + e + f + g + i) + 256 * ((d + e + f + g + i) + 256 * ((e + f + g + i) + 256 * ((f + g + i) + 256 * ((g + i) + 256 * i)))))) := by rw [h4, h3]; omega
  rw [h5]; exact by_top (by omega)
theorem by_lt {a y n : Nat} (h : a < 256) (hy : y < 256 ^ n) : a + 256 * y < 256 ^ (n + 1) := by
  rw [Nat.pow_succ]; omega
theorem ofBy_lt : ∀ {l : List Nat}, (∀ a ∈ l, a < 256) → ofBy l < 256 ^ l.length
  | [], _ => Nat.one_pos
  | a :: l, h => by rw [ofBy, List.length_cons]; exact by_lt (h a (by simp)) (ofBy_lt fun b hb => h b (by simp [hb]))
theorem ofBy_zero : ∀ {l : List Nat}, ofBy l = 0 ↔ ∀ a ∈ l, a = 0
  | [] => by simp [ofBy]
  | a :: l => by
    have ih := ofBy_zero (l := l)
    simp only [ofBy, List.mem_cons, forall_eq_or_imp, ← ih]; omega
def sumB : List Nat → Nat
  | [] => 0
  | a :: l => a + sumB l
theorem sumB_le : ∀ {l : List Nat}, (∀ a ∈ l, a ≤ 8) → sumB l ≤ 8 * l.length
  | [], _ => Nat.zero_le _
  | a :: l, h => by have h1 := h a (by simp); have h2 := sumB_le (l := l) fun b hb => h b (by simp [hb]); rw [sumB, List.length_cons]; omega
theorem sumB_zero : ∀ {l : List Nat}, sumB l = 0 ↔ ∀ a ∈ l, a = 0
  | [] => by simp [sumB]
  | a :: l => by
    have ih := sumB_zero (l := l)
    simp only [sumB, List.mem_cons, forall_eq_or_imp, ← ih]; omega
theorem oc_last {l : List Nat} (h : l.length = 8) (h8 : ∀ a ∈ l, a ≤ 8) : oc6 (oc5 (oc4 (ofBy l))) &&& 127 = sumB l := by
  obtain ⟨a, b, c, d, e, f, g, i, rfl⟩ := eight h
  simp only [List.mem_cons, List.not_mem_nil, or_false, forall_eq_or_imp, forall_eq] at h8
  obtain ⟨a1, b1, c1, d1, e1, f1, g1, i1⟩ := h8
  have := oc_sum a1 b1 c1 d1 e1 f1 g1 i1 (x := ofBy [a, b, c, d, e, f, g, i]) (by simp only [ofBy, Nat.mul_zero, Nat.add_zero])
  rw [oc6, oc5, oc4, this]; simp only [sumB]; omega
theorem ofBy_app (i : Nat) : ∀ l : List Nat, ofBy (l ++ [i]) = ofBy l + 256 ^ l.length * i
  | [] => by simp [ofBy]
  | a :: l => by
    rw [List.cons_append, ofBy, ofBy, ofBy_app i l, List.length_cons, Nat.pow_succ, Nat.mul_add, Nat.add_assoc]
    congr 2
    rw [← Nat.mul_assoc, Nat.mul_comm 256]
theorem ofBy_top {l : List Nat} (hn : l.length = 8) {m : Nat} (hm : ∀ a ∈ l, a < m) (h : ∀ a ∈ l, a < 256) : ofBy l < 256 ^ 7 * m := by
  obtain ⟨a, b, c, d, e, f, g, i, rfl⟩ := eight hn
  have e1 : [a, b, c, d, e, f, g, i] = [a, b, c, d, e, f, g] ++ [i] := rfl
  rw [e1] at hm h ⊢
  have h1 := ofBy_lt (l := [a, b, c, d, e, f, g]) fun x hx => h x (List.mem_append_left _ hx)
  have h2 := hm i (List.mem_append_right _ (by simp))
  rw [ofBy_app]
  generalize ofBy [a, b, c, d, e, f, g] = y at h1 ⊢
  simp only [List.length_cons, List.length_nil] at h1 ⊢
  omega
theorem oc_val {x : Nat} (hx : x < 2 ^ 64) : oc x ≤ 64 ∧ (oc x = 0 ↔ x = 0) ∧ oc1 x < 2 ^ 64 ∧ oc2 (oc1 x) < 2 ^ 63 ∧ oc3 (oc2 (oc1 x)) < 2 ^ 60 := by
  have hl := bys_lt 8 x
  have hn := bys_len 8 x
  have hxe : ofBy (bys x 8) = x := bys_of (show x < 256 ^ 8 from hx)
  generalize bys x 8 = l at hl hn hxe
  subst hxe
  have t := fun a (ha : a ∈ l) => pc_all (hl a ha)
  have e1 : oc1 (ofBy l) = ofBy (l.map p1) := by
    have g1 := shr_ofBy (m := 85) (s := 1) (by decide) (by decide) (by decide) hl
    have g2 := and_ofBy (m := 85) (by decide) hl
    rw [mask8 hn] at g1 g2
    rw [oc1, show 6148914691236517205 = ofBy [85, 85, 85, 85, 85, 85, 85, 85] from by decide, g1, g2, add_ofBy]; rfl
  have hl1 : ∀ a ∈ l.map p1, a < 256 := fun a ha => by obtain ⟨b, hb, rfl⟩ := List.mem_map.1 ha; exact (t b hb).1
  have hn1 : (l.map p1).length = 8 := by rw [List.length_map, hn]
  have e2 : oc2 (ofBy (l.map p1)) = ofBy ((l.map p1).map p2) := by
    have g1 := shr_ofBy (m := 51) (s := 2) (by decide) (by decide) (by decide) hl1
    have g2 := and_ofBy (m := 51) (by decide) hl1
    rw [mask8 hn1] at g1 g2
    rw [oc2, show 3689348814741910323 = ofBy [51, 51, 51, 51, 51, 51, 51, 51] from by decide, g1, g2, add_ofBy]; rfl
  have hl2 : ∀ a ∈ (l.map p1).map p2, a < 256 ∧ a / 16 ≤ 4 ∧ a % 16 ≤ 4 := fun a ha => by
    rw [List.map_map] at ha
    obtain ⟨b, hb, rfl⟩ := List.mem_map.1 ha; exact ⟨(t b hb).2.1, (t b hb).2.2.1⟩
  have hn2 : ((l.map p1).map p2).length = 8 := by rw [List.length_map, hn1]
  have e3 : oc3 (ofBy ((l.map p1).map p2)) = ofBy (l.map pc) := by
    have g1 := (nib_ofBy hl2).1
    rw [mask8 hn2] at g1
    rw [oc3, show 1085102592571150095 = ofBy [15, 15, 15, 15, 15, 15, 15, 15] from by decide, g1, List.map_map, List.map_map]; rfl
  have hl3 : ∀ a ∈ l.map pc, a ≤ 8 := fun a ha => by obtain ⟨b, hb, rfl⟩ := List.mem_map.1 ha; exact (t b hb).2.2.2.1
  have hn3 : (l.map pc).length = 8 := by rw [List.length_map, hn]
  have e4 : oc (ofBy l) = sumB (l.map pc) := by rw [oc, e1, e2, e3, oc_last hn3 hl3]
  have b1 := ofBy_lt hl1
  have hs := sumB_le hl3
  rw [hn1] at b1
  rw [hn3] at hs
  refine ⟨by rw [e4]; omega, ?_, by rw [e1]; exact b1, ?_, ?_⟩
  · rw [e4, sumB_zero, ofBy_zero]
    exact ⟨fun h a ha => (t a ha).2.2.2.2.1 (h _ (List.mem_map_of_mem ha)), fun h b hb => by obtain ⟨a, ha, rfl⟩ := List.mem_map.1 hb; exact (t a ha).2.2.2.2.2 (h a ha)⟩
  · rw [e1, e2]
    exact Nat.lt_of_lt_of_le (ofBy_top hn2 (m := 80) (fun a ha => by have := hl2 a ha; omega) (fun a ha => (hl2 a ha).1)) (by decide)
  · rw [e1, e2, e3]
    exact Nat.lt_of_lt_of_le (ofBy_top hn3 (m := 9) (fun a ha => Nat.lt_succ_of_le (hl3 a ha)) (fun a ha => Nat.lt_of_le_of_lt (hl3 a ha) (by decide))) (by decide)
end Go.QM
namespace Go.QM
open Go
section
variable {P : Program} {b : Frame} {a : Act} {k : List Item} {cs : List Frame} {w : World}
end
def Jmp (l : Nat) (J : Env → List Deferred → HP → Prop) (Q : Post) : Post
  | .goto l', ρ, ds, A => l' = l ∧ J ρ ds A
  | e, ρ, ds, A => Q e ρ ds A
section
variable {r : Option Nat} {P : Program} {N : Nat} {Q : Post} {ρ : Env} {ds : List Deferred} {A : HP}
theorem TC.enter {ι : Type} {c : Code} {inv : ι → Prop} {L : ι → List (Nat × Value)} {B : ι → HP} (h : ∀ i, inv i → ∀ ρ', TC r P N c Q (updL ρ' (L i)) ds (B i)) (i0 : ι) (h0 : inv i0) (hl : holdsL ρ (L i0)) (he : ent A (B i0)) :
    TC r P N c Q ρ ds A := by
  have := h i0 h0 ρ
  rw [updL_holds hl] at this
  exact this.weak he
variable {K : Env → List Deferred → HP → Prop} {i j : Nat}
theorem jn (h : Q .normal ρ ds A) : Jmp i K Q .normal ρ ds A := h
theorem gt (h : Q (.goto j) ρ ds A) : Thn K Q (.goto j) ρ ds A := h
theorem gb (h : Q (.goto j) ρ ds A) : Blk i Q (.goto j) ρ ds A := h
end
theorem ent_closeB2 {α : Type} {f g : α → HP} (i j k : Nat) {hs r1 r2 r3 gs : List HP} {L M : List α} {A B : HP} (a b : α) (h1 : take1 i hs = some (A, r1)) (h2 : take1 j r1 = some (B, r2)) (h3 : take1 k r2 = some (bigS f L, r3)) (hA : A = g a) (hB : B = g b)
    (hc : ∀ x ∈ L, f x = g x) (hp : (a :: b :: L).Perm M) (kk : ent (sepL r3) (sepL gs)) : ent (sepL hs) (sepL (bigS g M :: gs)) := by
  subst hA; subst hB
  rw [bigS_congr hc] at h3
  refine (take1_ent h1).trans ((sep_mono (ent.refl _) (take1_ent h2)).trans ?_)
  refine (sep_mono (ent.refl _) (sep_mono (ent.refl _) (take1_ent h3))).trans ?_
  refine (sep_mono (ent.refl _) sep_assoc').trans (sep_assoc'.trans (sep_mono ?_ kk))
  exact bigS_perm (f := g) hp
def enc2 (a : Int × Int) : Value := .agg (ints [a.1, a.2]).toArray
theorem findAsking2 {P : Program} {kt : TypeId} (h : eqST P kt 2 = true) (a : Int × Int) (w : World) : ∀ (m : List ((Int × Int) × Value)) (es : List MapEntry) (i : Nat), es.map (fun e => (e.key, e.val)) = m.map (fun t => (enc2 t.1, t.2)) →
    (Instr.findAsking kt (enc2 a) es i).run P w = .ok (findM a m i) w
  | [], es, i, he => by cases es with | nil => rfl | cons e es => simp at he
  | t :: m, es, i, he => by
    cases es with
    | nil => simp at he
    | cons e es =>
      simp only [List.map_cons, List.cons.injEq, Prod.mk.injEq] at he
      obtain ⟨⟨h1, h2⟩, h3⟩ := he
      have heq := (eqST_run h [a.1, a.2] [t.1.1, t.1.2] rfl rfl w).1
      have h4 : (Op.equal kt (enc2 a) (enc2 t.1)).run P w = .ok (decide (a = t.1)) w := by
        refine Eq.trans heq (congrArg (fun x => Result.ok x w) ?_)
        rw [decide_eq_decide]
        obtain ⟨a1, a2⟩ := a
        obtain ⟨⟨b1, b2⟩, v⟩ := t
        simp
      simp only [Instr.findAsking, h1, Sem.run_bind, h4, Result.andThen_ok, findM]
      by_cases hc : a = t.1
      · rw [if_pos (by simpa using hc), if_pos hc, Sem.run_pure, h2]
      · rw [if_neg (by simpa using hc), if_neg hc]
        exact findAsking2 h a w m es (i + 1) h3
theorem checkFields {P : Program} {n : Nat} (emp : Bool) (xs : List Int) (hx : xs.length = n) (w : World) : ∀ (fs : List Field) (m : Nat), m ≤ n → eqI64T P n fs m = true →
    (forIn (m := Sem) fs PUnit.unit fun f _ => do
        if f.name ≠ "_" then Instr.checkKey emp 9999 f.type (← part f.type (ints xs).toArray f.offset)
        pure (ForInStep.yield PUnit.unit)).run P w = .ok PUnit.unit w
  | [], m, _, _ => by simp
  | f :: fs, m, hm, h => by
    simp only [eqI64T, Bool.and_eq_true] at h
    obtain ⟨⟨⟨h1, h2⟩, h3⟩, h4⟩ := h
    have h2 := Nat.eq_of_beq_eq_true h2
    have hu : P.underlying f.type = some (.int .i64) := by
      cases hu : P.underlying f.type with
      | none => rw [hu] at h3; cases h3
      | some u => rw [hu] at h3; cases u <;> first | (cases h3; done) | (rename_i k; cases k <;> first | (cases h3; done) | rfl)
    have hmn : m < n := by
      rcases Nat.lt_or_ge m n with h | h
      · exact h
      · exfalso
        have hgt : ∀ (fs : List Field) (m : Nat), n < m → eqI64T P n fs m = true → False := by
          intro fs
          induction fs with
          | nil => intro m hm h; have := Nat.eq_of_beq_eq_true h; omega
          | cons f fs ih => intro m hm h; simp only [eqI64T, Bool.and_eq_true] at h; exact ih _ (by omega) h.2
        exact hgt fs (m + 1) (by omega) h4
    have p1 : (part f.type (ints xs).toArray f.offset).run P w = .ok (.int .i64 xs[m]) w := by
      have ha : oneT P f.type = true := by simp [oneT, hu]
      simp [part, isAgg_one ha, h2, ints, show m < xs.length by omega]
    have p2 : (Instr.checkKey emp 9999 f.type (.int .i64 xs[m])).run P w = .ok () w := by
      rw [show (9999 : Nat) = 9998 + 1 from rfl]
      unfold Instr.checkKey
      simp [underlying, hu]
    have hn : f.name ≠ "_" := by simpa using h1
    have ih := checkFields emp xs hx w fs (m + 1) (by omega) h4
    simp only [List.forIn_cons, Sem.run_bind, hn, ne_eq, not_false_eq_true, if_true, Result.andThen_ok, p1, p2, Sem.run_pure] at ih ⊢
    exact ih
theorem KL.pair {P : Program} {kt : TypeId} (h : eqST P kt 2 = true) : KL P kt enc2 where
  chk := fun emp a w => by
    have h' := h
    unfold eqST at h'
    cases hu : P.underlying kt with
    | none => rw [hu] at h'; cases h'
    | some u =>
      rw [hu] at h'
      cases u with
      | struct fs =>
        simp only [Bool.and_eq_true, Bool.not_eq_true'] at h'
        rw [show (10000 : Nat) = 9999 + 1 from rfl, Instr.checkKey]
        simp only [Sem.run_bind, underlying, run_program, Result.andThen_ok, hu, enc2]
        have := checkFields emp [a.1, a.2] rfl w fs.toList 0 (Nat.zero_le _) h'.1.1
        rw [Array.forIn_toList] at this
        simpa using this
      | _ => cases h'
  find := fun a m es w he => by
    have hs : ∃ fs, P.underlying kt = some (.struct fs) := by
      unfold eqST at h
      cases hu : P.underlying kt with
      | none => rw [hu] at h; cases h
      | some u =>
        rw [hu] at h
        cases u with
        | struct fs => exact ⟨fs, rfl⟩
        | _ => cases h
    obtain ⟨fs, hu⟩ := hs
    have hn : ∀ (es : List MapEntry), es.map (fun e => (e.key, e.val)) = m.map (fun t => (enc2 t.1, t.2)) → Instr.findNow (.struct fs) (enc2 a) es 0 = none ∨ es = [] := by
      intro es he
      cases es with
      | nil => exact .inr rfl
      | cons e es => left; simp [Instr.findNow, enc2, Instr.sameNow]
    rcases hn es he with h1 | h1
    · simp [Instr.findKey, underlying, hu, h1, findAsking2 h a w m es 0 he]
    · subst h1
      have : m = [] := by cases m with | nil => rfl | cons t m => simp at he
      subst this
      simp [Instr.findKey, underlying, hu, Instr.findNow, findM]
  same := fun a => by
    rw [show (10000 : Nat) = 9999 + 1 from rfl]
    simp [enc2, ints, Instr.sameBits]
end Go.QM
namespace Go.QM
open Go
section
variable {r : Option Nat} {P : Program} {N : Nat} {ops : Array Oper} {Q : Post} {ρ : Env} {ds : List Deferred} {A I : HP} {T : List Nat} {c : List (Nat × Bool)} {listed : Array Bool} {m : Nat}
def okQ (ops : Array Oper) (T : List Nat) (listed : Array Bool) (i : Nat) : Bool := (Region.ready .any ops listed).contains i && Region.free .any ops listed i && T.all (fun j => anc ops 9 j i)
def TF (r : Option Nat) (P : Program) (N : Nat) (ops : Array Oper) (I : HP) (T : List Nat) (listed : Array Bool) (m : Nat) (Q : Post) (ρ : Env) (ds : List Deferred) (A : HP) : Prop :=
  ∀ a w, Rep N a ρ ds → sat w A → sat w I → Closed ops listed → Region.noSelect ops = true → (∀ (j : Nat) (o : Oper), ops[j]? = some o → notDefer o.op = true) →
    wpAnyI (FR r) 0 P ops (Np (wq N w Q)) (fun w => sat w I) T m listed a w
theorem TF.of (c : List (Nat × Bool)) (hB : canonB ops T c listed = true) (hm : c.length = m) (h : TD r P N ops I T c Q ρ ds A) : TF r P N ops I T listed m Q ρ ds A := by
  intro a w hr hs hI hc hsel hnd
  subst hm
  exact h a w listed hr hs ⟨w, hI⟩ (.inl hI) hc hsel hnd hB
theorem TF.weak {B : HP} (e : ent A B) (h : TF r P N ops I T listed m Q ρ ds B) : TF r P N ops I T listed m Q ρ ds A := fun a w x y => h a w x (y.weak e)
theorem TF.quiet {i : Nat} {o : Oper} {v : Value} (ho : ops[i]? = some o) (hd : inB N o.dst = true) (hq : okQ ops T listed i = true)
    (hy : ∀ a, Rep N a ρ ds → YieldsI P ops (fun w => sat w I) o v a) (h : TF r P N ops I T (listed.setIfInBounds i true) m Q (updO ρ o.dst v) ds A) : TF r P N ops I T listed (m + 1) Q ρ ds A := by
  intro a w hr hs hI hc hsel hnd
  simp only [okQ, Bool.and_eq_true] at hq
  obtain ⟨⟨hr1, hf⟩, hT⟩ := hq
  have hir : i ∈ Region.ready .any ops listed := by simpa using hr1
  have := h (a.put o.dst v) w (hr.put hd v) hs hI (hc.set hir) hsel hnd
  exact wpAnyI_first (FR_fn r) ho (Region.noSelect_spec hsel) hnd (fun c a w h => h.elim) (.inr ⟨rfl, fun j hj => List.all_eq_true.1 hT j hj⟩) m listed a w hc (Region.free_spec ho hf) hir (hy a hr) hI this
theorem TF.step {i : Nat} {o : Oper} (ho : ops[i]? = some o) (hg : o.guard = none) (hd : inB N o.dst = true)
    (h : OW r P ρ o A (fun v A' => ent A' I ∧ TF r P N ops I T (listed.setIfInBounds i true) m Q (updO ρ o.dst v) ds A')) {a : Act} {w : World} (hr : Rep N a ρ ds) (hs : sat w A) (hc : Closed ops listed)
    (hsel : Region.noSelect ops = true) (hnd : ∀ (j : Nat) (o : Oper), ops[j]? = some o → notDefer o.op = true) (hir : i ∈ Region.ready .any ops listed) :
    wpOpIn (FR r) 0 P ops (Np (wq N w Q)) i (fun a' w' => (i ∉ T → sat w I → sat w' I) ∧ wpAnyI (FR r) 0 P ops (Np (wq N w Q)) (fun w => sat w I) T m (listed.setIfInBounds i true) a' w') a w := by
  unfold wpOpIn
  rw [ho]
  simp only []
  rw [if_pos (by simp [Region.wanted, hg])]
  refine Oper.wpIn_mono2 ?_ (h a w hr.eval hs)
  rintro a' w' ⟨v, A', rfl, s, hs', hk1, hk⟩
  have hgo := hk _ w' (hr.put hd v) hs' (hs'.weak hk1) (hc.set hir) hsel hnd
  have hmono : ∀ e a w'', Np (wq N w' Q) e a w'' → Np (wq N w Q) e a w'' := fun e a w'' h => Np_mono s h
  exact ⟨fun _ _ => hs'.weak hk1, wpAnyI_mono hmono m _ _ _ hgo⟩
theorem TF.eff {i : Nat} {o : Oper} (ho : ops[i]? = some o) (hg : o.guard = none) (hd : inB N o.dst = true) (hr1 : (Region.ready .any ops listed == [i]) = true)
    (h : OW r P ρ o A (fun v A' => ent A' I ∧ TF r P N ops I T (listed.setIfInBounds i true) m Q (updO ρ o.dst v) ds A')) : TF r P N ops I T listed (m + 1) Q ρ ds A := by
  intro a w hr hs _ hc hsel hnd
  rw [beq_iff_eq] at hr1
  refine ⟨fun hz => (by rw [hz] at hr1; cases hr1), fun j hj => ?_⟩
  have hir := hj
  rw [hr1] at hj
  obtain rfl : j = i := by simpa using hj
  exact TF.step ho hg hd h hr hs hc hsel hnd hir
theorem TF.fork {i j : Nat} {oi oj : Oper} (hi : ops[i]? = some oi) (hj : ops[j]? = some oj) (gi : oi.guard = none) (gj : oj.guard = none) (di : inB N oi.dst = true) (dj : inB N oj.dst = true) (hr1 : (Region.ready .any ops listed == [i, j]) = true)
    (h1 : OW r P ρ oi A (fun v A' => ent A' I ∧ TF r P N ops I T (listed.setIfInBounds i true) m Q (updO ρ oi.dst v) ds A'))
    (h2 : OW r P ρ oj A (fun v A' => ent A' I ∧ TF r P N ops I T (listed.setIfInBounds j true) m Q (updO ρ oj.dst v) ds A')) : TF r P N ops I T listed (m + 1) Q ρ ds A := by
  intro a w hr hs _ hc hsel hnd
  rw [beq_iff_eq] at hr1
  refine ⟨fun hz => (by rw [hz] at hr1; cases hr1), fun k hk => ?_⟩
  have hir := hk
  rw [hr1] at hk
  have hk : k = i ∨ k = j := by simpa using hk
  rcases hk with rfl | rfl
  · exact TF.step hi gi di h1 hr hs hc hsel hnd hir
  · exact TF.step hj gj dj h2 hr hs hc hsel hnd hir
section
variable {op op' : Op} {ty ty' : TypeId} {ps ps' : String} {af af' : Array Edge} {t t' i j : Nat} {v : Value}
theorem fq (ho : ops[i]? = some ⟨some t, op, ty, ps, af, none⟩) (hnd : notDefer op = true) (hd : Nat.blt t N = true) (hq : okQ ops T listed i = true) (hy : OQ P ρ ⟨some t, op, ty, ps, af, none⟩ I v)
    (h : TF r P N ops I T (listed.setIfInBounds i true) m Q (upd ρ t v) ds A) : TF r P N ops I T listed (m + 1) Q ρ ds A :=
  TF.quiet ho hd hq (fun a hr => ⟨hnd, .inl ⟨by simp [Region.wanted], fun w hs => by rw [hr.eval]; exact hy w hs⟩⟩) h
theorem ff (hi : ops[i]? = some ⟨some t, op, ty, ps, af, none⟩) (hj : ops[j]? = some ⟨some t', op', ty', ps', af', none⟩) (di : Nat.blt t N = true) (dj : Nat.blt t' N = true) (hr1 : (Region.ready .any ops listed == [i, j]) = true)
    (h1 : OW r P ρ ⟨some t, op, ty, ps, af, none⟩ A (fun v A' => ent A' I ∧ TF r P N ops I T (listed.setIfInBounds i true) m Q (upd ρ t v) ds A'))
    (h2 : OW r P ρ ⟨some t', op', ty', ps', af', none⟩ A (fun v A' => ent A' I ∧ TF r P N ops I T (listed.setIfInBounds j true) m Q (upd ρ t' v) ds A')) : TF r P N ops I T listed (m + 1) Q ρ ds A :=
  TF.fork hi hj rfl rfl di dj hr1 h1 h2
end
theorem TC.drawF {id : Nat} {l : List Oper} (I : HP) (T : List Nat) (m : Nat) (hsz : l.toArray.size = m) (hm : P.follows .mixedOrders = true) (hB : (Region.noSelect l.toArray && l.toArray.all (fun o => notDefer o.op)) = true) (hI : ent A I)
    (h : TF r P N l.toArray I T (Array.replicate m false) m Q ρ ds A) : TC r P N (.region id l.toArray true) Q ρ ds A := by
  intro a w hr hs
  subst hsz
  simp only [Bool.and_eq_true] at hB
  obtain ⟨h1, h2⟩ := hB
  have hgo := h a { w with drawn := w.drawn + 1 } hr hs (sat.weak (w := { w with drawn := w.drawn + 1 }) hs hI) (by
      intro j o ho hj
      have hlt : j < l.toArray.size := (Array.getElem?_eq_some_iff.1 ho).1
      rw [Array.getD_eq_getD_getElem?, Array.getElem?_replicate, if_pos hlt] at hj
      cases hj) h1 (fun j o ho => Array.all_eq_true_iff_forall_mem.1 h2 o (Array.mem_of_getElem? ho))
  have hmono : ∀ e a w'', Np (wq N { w with drawn := w.drawn + 1 } Q) e a w'' → wq N w Q e a w'' := fun e a w'' h =>
    Np_out (Np_mono (w0 := w) (w := { w with drawn := w.drawn + 1 }) ⟨rfl, rfl, rfl, Nat.le_refl _⟩ h)
  exact wpIn_region_any hm (wpAnyIn_of_I _ _ _ _ (wpAnyI_mono hmono _ _ _ _ hgo))
end
end Go.QM
namespace Go.QM
open Go
section
variable {P : Program} {ρ : Env} {A : HP} {d : Option Nat} {ty : TypeId} {ps : String} {af : Array Edge} {g : Option (Nat × Bool)} {t t' : TypeId} {x y : Operand}
end
end Go.QM
