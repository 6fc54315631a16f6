/- Proved here: contracts of functions of this program, under the premises that each theorem names. -/
import Derived.Laws.Bits64b
import Derived.Test.YtnlgmaibhlicjaaGreatDoorYj
set_option maxRecDepth 4000
namespace Go.QM
open Go
section
variable {P : Program} {ρ : Env} {A : HP} {d : Option Nat} {ty : TypeId} {ps : String} {af : Array Edge} {g : Option (Nat × Bool)} {t t' : TypeId} {x y : Operand} {a b n : Nat}
theorem min_bits {n : Nat} : min ((n : Int)).toNat IntKind.u64.bits = min n 64 := rfl
theorem div_min {a : Nat} (n : Nat) (ha : a < 2 ^ 64) : a / 2 ^ min n 64 = a / 2 ^ n := by
  by_cases h : n ≤ 64
  · rw [Nat.min_eq_left h]
  · rw [Nat.min_eq_right (by omega), Nat.div_eq_of_lt ha, Nat.div_eq_of_lt]
    exact Nat.lt_of_lt_of_le ha (Nat.pow_le_pow_right (by decide) (by omega))
theorem shrN {yk : IntKind} (hx : ev ρ x = .int .u64 (a : Int)) (hy : ev ρ y = .int yk (n : Int)) (ha : a < 2 ^ 64) :
    OQ P ρ ⟨d, .binOp .shr t x y t', ty, ps, af, g⟩ A (.int .u64 ((a / 2 ^ n : Nat) : Int)) := by
  have h := shrR (P := P) (A := A) (d := d) (ty := ty) (ps := ps) (af := af) (g := g) (t := t) (t' := t') hx hy (by omega)
  have e : (a : Int).fdiv (2 ^ min ((n : Int)).toNat IntKind.u64.bits) = ((a / 2 ^ n : Nat) : Int) := by
    rw [min_bits, ← div_min n ha, Int.fdiv_eq_ediv_of_nonneg _ (by exact Int.le_of_lt (Int.pow_pos (by decide)))]
    simp
  rwa [e] at h
theorem shlN {yk : IntKind} (hx : ev ρ x = .int .u64 (a : Int)) (hy : ev ρ y = .int yk (n : Int)) (hn : n ≤ 64) :
    OQ P ρ ⟨d, .binOp .shl t x y t', ty, ps, af, g⟩ A (.int .u64 ((a * 2 ^ n % 2 ^ 64 : Nat) : Int)) :=
  shlR hx hy (by omega) (by rw [min_bits, Nat.min_eq_left hn, IntKind.wrap_u64]; simp)
theorem andN (hx : ev ρ x = .int .u64 (a : Int)) (hy : ev ρ y = .int .u64 (b : Int)) (ha : a < 2 ^ 64) (hb : b < 2 ^ 64) :
    OQ P ρ ⟨d, .binOp .and t x y t', ty, ps, af, g⟩ A (.int .u64 ((a &&& b : Nat) : Int)) := andR hx hy (bits_and_u64_nat a b ha hb)
theorem orN (hx : ev ρ x = .int .u64 (a : Int)) (hy : ev ρ y = .int .u64 (b : Int)) (ha : a < 2 ^ 64) (hb : b < 2 ^ 64) :
    OQ P ρ ⟨d, .binOp .or t x y t', ty, ps, af, g⟩ A (.int .u64 ((a ||| b : Nat) : Int)) := orR hx hy (bits_or_u64_nat a b ha hb)
theorem xorN (hx : ev ρ x = .int .u64 (a : Int)) (hy : ev ρ y = .int .u64 (b : Int)) (ha : a < 2 ^ 64) (hb : b < 2 ^ 64) :
    OQ P ρ ⟨d, .binOp .xor t x y t', ty, ps, af, g⟩ A (.int .u64 ((a ^^^ b : Nat) : Int)) := fun w _ => by
  have h : IntKind.u64.wrap (BitVec.ofInt IntKind.u64.bits (a : Int) ^^^ BitVec.ofInt IntKind.u64.bits (b : Int)).toNat = ((a ^^^ b : Nat) : Int) := bits_xor_u64_nat a b ha hb
  simp [execOp, hx, hy, eqGuard, binOp, Op.intBits]
  simpa using h
theorem and1 (hx : ev ρ x = .int .u64 (a : Int)) (hy : ev ρ y = .int .u64 1) (ha : a < 2 ^ 64) :
    OQ P ρ ⟨d, .binOp .and t x y t', ty, ps, af, g⟩ A (.int .u64 ((a % 2 : Nat) : Int)) := by
  have h := andN (P := P) (A := A) (d := d) (ty := ty) (ps := ps) (af := af) (g := g) (t := t) (t' := t') (b := 1) hx hy ha (by decide)
  rwa [Nat.and_one_is_mod] at h
theorem shl1 {yk : IntKind} (hx : ev ρ x = .int .u64 1) (hy : ev ρ y = .int yk (n : Int)) (hn : n < 64) :
    OQ P ρ ⟨d, .binOp .shl t x y t', ty, ps, af, g⟩ A (.int .u64 ((2 ^ n : Nat) : Int)) := by
  have h := shlN (P := P) (A := A) (d := d) (ty := ty) (ps := ps) (af := af) (g := g) (t := t) (t' := t') (a := 1) hx hy (by omega)
  rwa [Nat.one_mul, Nat.mod_eq_of_lt (Nat.pow_lt_pow_right (by decide) hn)] at h
theorem comN (hx : ev ρ x = .int .u64 (a : Int)) (ha : a < 2 ^ 64) : OQ P ρ ⟨d, .unOp .xor t x, ty, ps, af, g⟩ A (.int .u64 ((2 ^ 64 - 1 ^^^ a : Nat) : Int)) := fun w _ => by
  have h : IntKind.u64.wrap (BitVec.ofInt IntKind.u64.bits ((2 ^ 64 - 1 : Nat) : Int) ^^^ BitVec.ofInt IntKind.u64.bits (a : Int)).toNat = ((2 ^ 64 - 1 ^^^ a : Nat) : Int) := bits_xor_u64_nat (2 ^ 64 - 1) a (by decide) ha
  have e : (if IntKind.u64.signed = true then (-1 : Int) else IntKind.u64.max) = ((2 ^ 64 - 1 : Nat) : Int) := by decide
  simp only [execOp, hx, Op.unary, e, Op.intBits]
  simpa using h
end
def wv (f : Nat → Bool) : Nat → Nat
  | 0 => 0
  | n + 1 => wv f n + if f n then 2 ^ n else 0
theorem wv_lt (f : Nat → Bool) : ∀ n, wv f n < 2 ^ n
  | 0 => Nat.one_pos
  | n + 1 => by
    have h := wv_lt f n
    rw [wv, Nat.pow_succ]; split <;> omega
theorem wv_bit (f : Nat → Bool) : ∀ (n i : Nat), (wv f n).testBit i = (decide (i < n) && f i)
  | 0, i => by simp [wv]
  | n + 1, i => by
    have hl := wv_lt f n
    have ih := wv_bit f n i
    rw [wv]
    by_cases hf : f n = true
    · rw [if_pos hf, Nat.add_comm, ← Nat.one_mul (2 ^ n), Nat.mul_comm, Nat.testBit_two_pow_mul_add _ hl]
      by_cases hi : i < n
      · rw [if_pos hi, ih]; simp [hi, Nat.lt_succ_of_lt hi]
      · rw [if_neg hi]
        by_cases e : i = n
        · subst e; simp [hf]
        · have : i - n ≠ 0 := by omega
          rw [decide_eq_false (by omega : ¬ i < n + 1), Bool.false_and]
          have e1 : (1 : Nat).testBit (i - n) = false := by
            obtain ⟨j, hj⟩ : ∃ j, i - n = j + 1 := ⟨i - n - 1, by omega⟩
            rw [hj, Nat.testBit_succ]; simp
          exact e1
    · rw [if_neg hf, Nat.add_zero, ih]
      by_cases e : i = n
      · subst e; simp [hf]
      · have : decide (i < n) = decide (i < n + 1) := by rw [decide_eq_decide]; omega
        rw [this]
theorem wv_ext {f g : Nat → Bool} : ∀ {n : Nat}, (∀ i, i < n → f i = g i) → wv f n = wv g n
  | 0, _ => rfl
  | n + 1, h => by rw [wv, wv, wv_ext fun i hi => h i (by omega), h n (by omega)]
end Go.QM
namespace Go.QM
open Go
def ldB (m : Nat → Nat) (o : Nat) : Nat → Nat
  | 0 => 0
  | n + 1 => ldB m o n + m (o + n) * 2 ^ (8 * n)
def ldW (m : Nat → Nat) (o : Nat) : Nat := ldB m o 8
def byteOK (m : Nat → Nat) : Prop := ∀ i, m i < 256
theorem ldB_lt {m : Nat → Nat} (h : byteOK m) (o : Nat) : ∀ n, ldB m o n < 2 ^ (8 * n)
  | 0 => Nat.one_pos
  | n + 1 => by
    have h1 := ldB_lt h o n
    have h2 := h (o + n)
    have e : 2 ^ (8 * (n + 1)) = 256 * 2 ^ (8 * n) := by rw [Nat.mul_add, Nat.pow_add, Nat.mul_comm]
    rw [ldB, e]
    generalize 2 ^ (8 * n) = p at h1 ⊢
    have : m (o + n) * p ≤ 255 * p := Nat.mul_le_mul_right _ (by omega)
    omega
theorem ldB_congr {m m' : Nat → Nat} {o : Nat} : ∀ {n : Nat}, (∀ i, o ≤ i → i < o + n → m i = m' i) → ldB m o n = ldB m' o n
  | 0, _ => rfl
  | n + 1, h => by rw [ldB, ldB, ldB_congr fun i h1 h2 => h i h1 (by omega), h (o + n) (by omega) (by omega)]
theorem or_byte {a c k : Nat} (h : a < 2 ^ k) : a ||| c * 2 ^ k = a + c * 2 ^ k := by
  rw [Nat.or_comm, Nat.mul_comm, ← Nat.two_pow_add_eq_or_of_lt h, Nat.add_comm]
def stB (m : Nat → Nat) (o : Nat) (v : Nat) (n : Nat) : Nat → Nat := fun i => if o ≤ i ∧ i < o + n then v / 2 ^ (8 * (i - o)) % 256 else m i
def stW (m : Nat → Nat) (o : Nat) (v : Nat) : Nat → Nat := stB m o v 8
theorem ldB_stB {m : Nat → Nat} {o v : Nat} {k : Nat} : ∀ {n : Nat}, n ≤ k → ldB (stB m o v k) o n = v % 2 ^ (8 * n)
  | 0, _ => by rw [ldB]; simp; omega
  | n + 1, h => by
    rw [ldB, ldB_stB (by omega), stB, if_pos (by omega), Nat.add_sub_cancel_left]
    have e : 2 ^ (8 * (n + 1)) = 2 ^ (8 * n) * 256 := by rw [Nat.mul_add, Nat.pow_add]
    rw [e, Nat.mod_mul, Nat.mul_comm (v / _ % 256)]
theorem ldW_stW (m : Nat → Nat) (o : Nat) {v : Nat} (hv : v < 2 ^ 64) : ldW (stW m o v) o = v := by
  rw [ldW, stW, ldB_stB (Nat.le_refl 8)]; exact Nat.mod_eq_of_lt hv
theorem ldW_ne {m : Nat → Nat} {o o' n : Nat} {g : Nat → Nat} (h : o' + 8 ≤ o ∨ o + n ≤ o') : ldW (fun i => if o ≤ i ∧ i < o + n then g i else m i) o' = ldW m o' :=
  ldB_congr fun i h1 h2 => by rw [if_neg (by omega)]
def zB (m : Nat → Nat) (o n : Nat) : Nat → Nat := fun i => if o ≤ i ∧ i < o + n then 0 else m i
theorem zB_ok {m : Nat → Nat} (h : byteOK m) (o n : Nat) : byteOK (zB m o n) := fun i => by
  rw [zB]; split
  · decide
  · exact h i
theorem zB_snoc (m : Nat → Nat) (o n : Nat) : zB m o (n + 1) = fun i => if i = o + n then 0 else zB m o n i := by
  funext i
  rw [zB, zB]
  by_cases e : i = o + n
  · rw [if_pos (by omega), if_pos e]
  · rw [if_neg e]
    by_cases h : o ≤ i ∧ i < o + n
    · rw [if_pos (by omega), if_pos h]
    · rw [if_neg (by omega), if_neg h]
theorem zB_zero (m : Nat → Nat) (o : Nat) : zB m o 0 = m := funext fun i => by rw [zB, if_neg (by omega)]
theorem ldB_zero {m : Nat → Nat} {o : Nat} : ∀ {n : Nat}, (∀ i, o ≤ i → i < o + n → m i = 0) → ldB m o n = 0
  | 0, _ => rfl
  | n + 1, h => by rw [ldB, ldB_zero fun i h1 h2 => h i h1 (by omega), h (o + n) (by omega) (by omega)]; simp
theorem ldW_zB {m : Nat → Nat} {o n o' : Nat} (h1 : o ≤ o') (h2 : o' + 8 ≤ o + n) : ldW (zB m o n) o' = 0 :=
  ldB_zero fun i h3 h4 => by rw [zB, if_pos (by omega)]
theorem ldW_zB_ne {m : Nat → Nat} {o n o' : Nat} (h : o' + 8 ≤ o ∨ o + n ≤ o') : ldW (zB m o n) o' = ldW m o' := ldW_ne h
def byC (m : Nat → Nat) (n : Nat) : List Value := (List.range n).map fun i => .int .u8 (m i : Int)
theorem byC_length (m : Nat → Nat) (n : Nat) : (byC m n).length = n := by simp [byC]
theorem byC_get (m : Nat → Nat) {n i : Nat} (h : i < n) : (byC m n)[i]? = some (.int .u8 (m i : Int)) := by simp [byC, h]
theorem byC_set (m : Nat → Nat) {n i : Nat} (h : i < n) (v : Nat) : splice i [.int .u8 (v : Int)] (byC m n) = byC (fun j => if j = i then v else m j) n := by
  have e : byC (fun j => if j = i then v else m j) n = (byC m n).set i (.int .u8 (v : Int)) := by
    apply List.ext_getElem?
    intro j
    by_cases hj : j < n
    · rw [byC_get _ hj, List.getElem?_set]
      by_cases e : i = j
      · subst e; rw [if_pos rfl, if_pos rfl, if_pos (by rw [byC_length]; exact h)]
      · rw [if_neg (fun h => e h.symm), if_neg e, byC_get _ hj]
    · rw [List.getElem?_eq_none (by rw [byC_length]; omega), List.getElem?_eq_none (by rw [List.length_set, byC_length]; omega)]
  rw [e, List.set_eq_take_append_cons_drop, if_pos (by rw [byC_length]; exact h)]
  simp [splice]
theorem byC_one (m : Nat → Nat) (n : Nat) : (byC m n).all Value.oneCell' = true := by
  rw [List.all_eq_true]; intro v hv
  obtain ⟨i, _, rfl⟩ := List.mem_map.1 hv
  rfl
end Go.QM
