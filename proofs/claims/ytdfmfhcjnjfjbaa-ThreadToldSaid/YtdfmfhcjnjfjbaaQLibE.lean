/-
  Integers, comparisons, slices: the operations' rules over symbolic states. Nothing of a program stands here.
-/
import Derived.Test.YtdfmfhcjnjfjbaaQLibC
namespace Go.QM
open Go

/-! ### Integers -/
theorem wi64 {n : Int} (h1 : -9223372036854775808 ≤ n) (h2 : n ≤ 9223372036854775807) : IntKind.i64.wrap n = n := by
  simp only [IntKind.wrap, IntKind.bits, IntKind.signed]
  simp
  omega
theorem wu8 {n : Int} (h1 : 0 ≤ n) (h2 : n ≤ 255) : IntKind.u8.wrap n = n := by
  simp only [IntKind.wrap, IntKind.bits, IntKind.signed]; simp; omega
theorem wu16 {n : Int} (h1 : 0 ≤ n) (h2 : n ≤ 65535) : IntKind.u16.wrap n = n := by
  simp only [IntKind.wrap, IntKind.bits, IntKind.signed]; simp; omega
theorem wu32 {n : Int} (h1 : 0 ≤ n) (h2 : n ≤ 4294967295) : IntKind.u32.wrap n = n := by
  simp only [IntKind.wrap, IntKind.bits, IntKind.signed]; simp; omega
theorem wu64 {n : Int} (h1 : 0 ≤ n) (h2 : n ≤ 18446744073709551615) : IntKind.u64.wrap n = n := by
  simp only [IntKind.wrap, IntKind.bits, IntKind.signed]; simp; omega
theorem beq_dec (a b : Int) : (a == b) = decide (a = b) := by rw [Bool.eq_iff_iff]; simp

section
variable {r : Option Nat} {P : Program} {N : Nat} {ops : Array Oper} {l : List Oper} {Q : Post} {ρ : Env} {ds : List Deferred} {A : HP} {K : Value → HP → Prop}
variable {d : Option Tmp} {ty : TypeId} {ps : String} {af : Array Edge} {g : Option (Nat × Bool)}
variable {t t' : TypeId} {x y : Operand} {k : IntKind} {a b c : Int}

theorem add (hx : ev ρ x = .int k a) (hy : ev ρ y = .int k b) (hw : k.wrap (a + b) = c) : OQ P ρ ⟨d, .binOp .add t x y t', ty, ps, af, g⟩ A (.int k c) :=
  fun _ _ => by simp [execOp, eqGuard, binOp, Op.intArith, hx, hy, hw]
theorem sub (hx : ev ρ x = .int k a) (hy : ev ρ y = .int k b) (hw : k.wrap (a - b) = c) : OQ P ρ ⟨d, .binOp .sub t x y t', ty, ps, af, g⟩ A (.int k c) :=
  fun _ _ => by simp [execOp, eqGuard, binOp, Op.intArith, hx, hy, hw]
theorem mul (hx : ev ρ x = .int k a) (hy : ev ρ y = .int k b) (hw : k.wrap (a * b) = c) : OQ P ρ ⟨d, .binOp .mul t x y t', ty, ps, af, g⟩ A (.int k c) :=
  fun _ _ => by simp [execOp, eqGuard, binOp, Op.intArith, hx, hy, hw]
theorem quo (hx : ev ρ x = .int k a) (hy : ev ρ y = .int k b) (hb : b ≠ 0) (hw : k.wrap (a.tdiv b) = c) : OQ P ρ ⟨d, .binOp .quo t x y t', ty, ps, af, g⟩ A (.int k c) :=
  fun _ _ => by simp [execOp, eqGuard, binOp, Op.intDiv, hx, hy, hw, hb]
theorem rem (hx : ev ρ x = .int k a) (hy : ev ρ y = .int k b) (hb : b ≠ 0) (hw : a.tmod b = c) : OQ P ρ ⟨d, .binOp .rem t x y t', ty, ps, af, g⟩ A (.int k c) :=
  fun _ _ => by simp [execOp, eqGuard, binOp, Op.intDiv, hx, hy, hw, hb]
/-- The same, of signed 64-bit numbers in range. -/
theorem addI (hx : ev ρ x = .int .i64 a) (hy : ev ρ y = .int .i64 b) (h1 : -9223372036854775808 ≤ a + b) (h2 : a + b ≤ 9223372036854775807) : OQ P ρ ⟨d, .binOp .add t x y t', ty, ps, af, g⟩ A (.int .i64 (a + b)) := add hx hy (wi64 h1 h2)
theorem subI (hx : ev ρ x = .int .i64 a) (hy : ev ρ y = .int .i64 b) (h1 : -9223372036854775808 ≤ a - b) (h2 : a - b ≤ 9223372036854775807) : OQ P ρ ⟨d, .binOp .sub t x y t', ty, ps, af, g⟩ A (.int .i64 (a - b)) := sub hx hy (wi64 h1 h2)
theorem mulI (hx : ev ρ x = .int .i64 a) (hy : ev ρ y = .int .i64 b) (h1 : -9223372036854775808 ≤ a * b) (h2 : a * b ≤ 9223372036854775807) : OQ P ρ ⟨d, .binOp .mul t x y t', ty, ps, af, g⟩ A (.int .i64 (a * b)) := mul hx hy (wi64 h1 h2)
/-- '/' and '%' of numbers that are not negative. -/
theorem quoI (hx : ev ρ x = .int .i64 a) (hy : ev ρ y = .int .i64 b) (ha : 0 ≤ a) (hb : 0 < b) (h2 : a ≤ 9223372036854775807) : OQ P ρ ⟨d, .binOp .quo t x y t', ty, ps, af, g⟩ A (.int .i64 (a / b)) :=
  quo hx hy (by omega) (by
    rw [Int.tdiv_eq_ediv_of_nonneg ha]
    have h0 : 0 ≤ a / b := Int.ediv_nonneg ha (by omega)
    have h1 : a / b ≤ a := Int.ediv_le_self b ha
    exact wi64 (by omega) (by omega))
theorem remI (hx : ev ρ x = .int k a) (hy : ev ρ y = .int k b) (ha : 0 ≤ a) (hb : 0 < b) : OQ P ρ ⟨d, .binOp .rem t x y t', ty, ps, af, g⟩ A (.int k (a % b)) :=
  rem hx hy (by omega) (Int.tmod_eq_emod_of_nonneg ha)
theorem lss (hx : ev ρ x = .int k a) (hy : ev ρ y = .int k b) : OQ P ρ ⟨d, .binOp .lss t x y t', ty, ps, af, g⟩ A (.bool (decide (a < b))) :=
  fun _ _ => by simp [execOp, eqGuard, binOp, Op.intCmp, hx, hy]
theorem leq (hx : ev ρ x = .int k a) (hy : ev ρ y = .int k b) : OQ P ρ ⟨d, .binOp .leq t x y t', ty, ps, af, g⟩ A (.bool (decide (a ≤ b))) :=
  fun _ _ => by simp [execOp, eqGuard, binOp, Op.intCmp, hx, hy]
theorem gtr (hx : ev ρ x = .int k a) (hy : ev ρ y = .int k b) : OQ P ρ ⟨d, .binOp .gtr t x y t', ty, ps, af, g⟩ A (.bool (decide (b < a))) :=
  fun _ _ => by simp [execOp, eqGuard, binOp, Op.intCmp, hx, hy]
theorem geq (hx : ev ρ x = .int k a) (hy : ev ρ y = .int k b) : OQ P ρ ⟨d, .binOp .geq t x y t', ty, ps, af, g⟩ A (.bool (decide (b ≤ a))) :=
  fun _ _ => by simp [execOp, eqGuard, binOp, Op.intCmp, hx, hy]
theorem eqI (hx : ev ρ x = .int k a) (hy : ev ρ y = .int k b) : OQ P ρ ⟨d, .binOp .eql t x y t', ty, ps, af, g⟩ A (.bool (decide (a = b))) :=
  fun _ _ => by simp [execOp, eqGuard, binOp, Op.intCmp, hx, hy, beq_dec]
theorem neI (hx : ev ρ x = .int k a) (hy : ev ρ y = .int k b) : OQ P ρ ⟨d, .binOp .neq t x y t', ty, ps, af, g⟩ A (.bool (decide (a ≠ b))) :=
  fun _ _ => by
    have : (a != b) = decide (a ≠ b) := by rw [Bool.eq_iff_iff]; simp
    simp [execOp, eqGuard, binOp, Op.intCmp, hx, hy, this]
theorem neg (hx : ev ρ x = .int k a) (hw : k.wrap (0 - a) = c) : OQ P ρ ⟨d, .unOp .neg t x, ty, ps, af, g⟩ A (.int k c) :=
  fun _ _ => by simp only [execOp, Op.unary, Op.intArith, hx, hw]; rfl
theorem notD {p : Prop} [Decidable p] (hx : ev ρ x = .bool (decide p)) : OQ P ρ ⟨d, .unOp .not t x, ty, ps, af, g⟩ A (.bool (decide (¬ p))) :=
  fun _ _ => by simp [execOp, Op.unary, hx]
theorem notB {b : Bool} (hx : ev ρ x = .bool b) : OQ P ρ ⟨d, .unOp .not t x, ty, ps, af, g⟩ A (.bool (!b)) :=
  fun _ _ => by simp [execOp, Op.unary, hx]
def intT (P : Program) (t : TypeId) (k : IntKind) : Bool := match P.underlying t with
  | some (.int k') => decide (k' = k)
  | _ => false
theorem intT_run {t : TypeId} {k : IntKind} (h : intT P t k = true) (w : World) : (underlying t).run P w = .ok (.int k) w := by
  unfold intT at h
  cases hu : P.underlying t with
  | none => rw [hu] at h; cases h
  | some u => rw [hu] at h; cases u <;> first | (cases h; done) | (have := of_decide_eq_true h; subst this; simp [underlying, hu])
theorem conv (k k' : IntKind) (h1 : intT P t k = true) (h2 : intT P t' k' = true) (hx : ev ρ x = .int k a) (hw : k'.wrap a = c) : OQ P ρ ⟨d, .convert t t' x, ty, ps, af, g⟩ A (.int k' c) :=
  fun w _ => by simp [execOp, Go.convert, intT_run h1, intT_run h2, hx, Conv.intToInt, hw]

/-! ### Pointers and nil -/
def ptrT (P : Program) (t : TypeId) : Bool := match P.underlying t with
  | some (.pointer _) => true
  | _ => false
theorem ptrT_run {t : TypeId} (h : ptrT P t = true) : ∃ e, P.underlying t = some (.pointer e) := by
  unfold ptrT at h
  cases hu : P.underlying t with
  | none => rw [hu] at h; cases h
  | some u => rw [hu] at h; cases u <;> first | (cases h; done) | exact ⟨_, rfl⟩
theorem equal_nil {t : TypeId} (h : ptrT P t = true) (p : Option Addr) (w : World) : (Op.equal t (.pointer p) (.pointer none)).run P w = .ok p.isNone w := by
  obtain ⟨e, he⟩ := ptrT_run h
  have key : ∀ d, (Op.equalIn (d + 1) t (.pointer p) (.pointer none)).run P w = .ok p.isNone w := fun d => by
    cases p <;> simp [Op.equalIn, underlying, he]
  exact key 9999
theorem eqNil {p : Option Addr} (ht : ptrT P t = true) (hx : ev ρ x = .pointer p) (hy : ev ρ y = .pointer none) : OQ P ρ ⟨d, .binOp .eql t x y t', ty, ps, af, g⟩ A (.bool p.isNone) := by
  intro w _
  unfold execOp
  simp only [hx, hy, eqGuard, binOp, Sem.run_bind, Sem.run_pure, Result.andThen_ok, equal_nil ht]
  rfl
theorem neNil {p : Option Addr} (ht : ptrT P t = true) (hx : ev ρ x = .pointer p) (hy : ev ρ y = .pointer none) : OQ P ρ ⟨d, .binOp .neq t x y t', ty, ps, af, g⟩ A (.bool p.isSome) := by
  intro w _
  unfold execOp
  simp only [hx, hy, eqGuard, binOp, Sem.run_bind, Sem.run_pure, Result.andThen_ok, equal_nil ht]
  cases p <;> rfl

/-! ### Slices as values -/
def slcT (P : Program) (t : TypeId) (E sz : Nat) : Bool := match P.underlying t with
  | some (.slice e) => Nat.beq e E && szT P e sz
  | _ => false
theorem slcT_run {t E sz : Nat} (h : slcT P t E sz = true) (w : World) : (underlying t).run P w = .ok (.slice E) w ∧ (Go.sizeOf E).run P w = .ok sz w := by
  unfold slcT at h
  cases hu : P.underlying t with
  | none => rw [hu] at h; cases h
  | some u =>
    rw [hu] at h
    cases u <;> first | (cases h; done) | (simp only [Bool.and_eq_true] at h; have := Nat.eq_of_beq_eq_true h.1; subst this; exact ⟨by simp [underlying, hu], szT_run h.2 w⟩)
theorem ix (E sz : Nat) {bl off n cap : Nat} {j : Int} {o : Nat} (ht : slcT P t E sz = true) (hx : ev ρ x = .slice (some ⟨bl, off, none⟩) n cap) (hy : ev ρ y = .int .i64 j) (h0 : 0 ≤ j) (h1 : j < n) (ho : off + j.toNat * sz = o) :
    OQ P ρ ⟨d, .indexAddr t x y, ty, ps, af, g⟩ A (.pointer (some ⟨bl, o, none⟩)) :=
  fun w _ => by simp [execOp, Instr.indexAt, hx, hy, asIntOf, slcT_run ht, h0, h1, addr_add, ho]
/-- The address of a place, some cells on. -/
def pa (ad : Option Addr) (o : Nat) : Value := .pointer (ad.map fun p => ⟨p.block, p.off + o, none⟩)
theorem len (E sz : Nat) {ad : Option Addr} {n cap : Nat} (ht : slcT P t E sz = true) (hx : ev ρ x = .slice ad n cap) :
    OQ P ρ ⟨d, .call ⟨.builtin .len, #[x], #[t]⟩, ty, ps, af, g⟩ A (.int .i64 n) :=
  fun w _ => by simp [execOp, resolve, invoke, builtin, Builtin.len_, hx, slcT_run ht, goInt]
def sliceOff (ad : Option Addr) (cap j sz : Nat) : Option Addr := if cap = j then ad else ad.map (·.add (j * sz))
/-- 'x[lo:]', 'x[:hi]', 'x[lo:hi]' -/
theorem slF (E sz : Nat) {ad : Option Addr} {n cap : Nat} {j : Int} (ht : slcT P t E sz = true) (hx : ev ρ x = .slice ad n cap) (hy : ev ρ y = .int .i64 j) (h0 : 0 ≤ j) (h1 : j ≤ n) :
    OQ P ρ ⟨d, .slice t x (some y) none none, ty, ps, af, g⟩ A (.slice (sliceOff ad cap j.toNat sz) (n - j.toNat) (cap - j.toNat)) :=
  fun w _ => by simp [execOp, Instr.sliceAt, Instr.slice, Instr.sliceBounds, Instr.sliceBound, hx, hy, asIntOf, slcT_run ht, h0, h1, sliceOff]
theorem slT (E sz : Nat) {ad : Option Addr} {n cap : Nat} {j : Int} (ht : slcT P t E sz = true) (hx : ev ρ x = .slice ad n cap) (hy : ev ρ y = .int .i64 j) (h0 : 0 ≤ j) (h1 : j ≤ cap) :
    OQ P ρ ⟨d, .slice t x none (some y) none, ty, ps, af, g⟩ A (.slice ad j.toNat cap) :=
  fun w _ => by
    have : (if cap = 0 then ad else Option.map (fun x => x.add 0) ad) = ad := by split <;> cases ad <;> simp [Addr.add]
    simp [execOp, Instr.sliceAt, Instr.slice, Instr.sliceBounds, Instr.sliceBound, hx, hy, asIntOf, slcT_run ht, h0, h1, this]
theorem slFT (E sz : Nat) {z : Operand} {ad : Option Addr} {n cap : Nat} {j i : Int} (ht : slcT P t E sz = true) (hx : ev ρ x = .slice ad n cap) (hy : ev ρ y = .int .i64 i) (hz : ev ρ z = .int .i64 j) (h0 : 0 ≤ i) (h1 : i ≤ j) (h2 : j ≤ cap) :
    OQ P ρ ⟨d, .slice t x (some y) (some z) none, ty, ps, af, g⟩ A (.slice (sliceOff ad cap i.toNat sz) (j.toNat - i.toNat) (cap - i.toNat)) :=
  fun w _ => by
    have hj : 0 ≤ j := by omega
    have hij : i.toNat ≤ j.toNat := by omega
    have h3 : i ≤ (j.toNat : Int) := by omega
    have e1 : (Instr.sliceBound (.int .i64 j) cap .sliceAcap).run P w = .ok j.toNat w := by simp [Instr.sliceBound, asIntOf, hj, h2]
    have e2 : (Instr.sliceBound (.int .i64 i) j.toNat .sliceB).run P w = .ok i.toNat w := by simp only [Instr.sliceBound, asIntOf, Sem.run_bind, Sem.run_pure, Result.andThen_ok]; rw [if_pos ⟨h0, h3⟩]; rfl
    simp [execOp, Instr.sliceAt, Instr.slice, Instr.sliceBounds, hx, hy, hz, slcT_run ht, e1, e2, sliceOff]

end
end Go.QM
