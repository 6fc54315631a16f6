/- Proved here: contracts of functions of this program, under the premises that each theorem names. -/
import Derived.Deep.Slices
import Derived.Test.YtnlgmaibhlicjaaGreatDoorYl
set_option maxRecDepth 4000
namespace Go.QM
open Go Go.ChangeShapes Go.WideShapes Go.RowKit
section
variable {H : Type} {enc : TypeId × Value → H} {P : Program}
end
end Go.QM
namespace Go.Proofs.YtnlgmaibhlicjaaGreatDoor
open Go Go.QM
def tz64C : List Value := Lib.deBruijn64tab.map fun n : Nat => .int .u8 (n : Int)
def costsC : List Value := ints [0, 64, 128, 256, 32, 32, 48, 256]
def askC (k r : Int) (s : Bool) : List Value := [.int .i64 k, .int .i64 r, .bool s]
def asksC : List Value := askC 0 0 false ++ askC 1 1 true ++ askC 0 8 true ++ askC 3 2 true ++ askC 3 2 true ++ askC 4 2 true ++ askC 5 2 true ++ askC 5 2 true ++ askC 5 2 true ++ askC 5 1 true ++ askC 4 1 true ++ askC 0 0 false ++ askC 0 0 false ++ askC 0 0 false ++ askC 0 0 false ++ askC 2 2 true ++ askC 0 0 true ++ askC 8 1 true ++ askC 8 2 true
structure GV (F : HP) : Prop where
  co : ∃ E fz, Rd F 0 (.cells costsC.toArray E fz)
  ct : ∃ E fz, Rd F 1 (.cells asksC.toArray E fz)
  tz : ∃ E fz, Rd F 3 (.cells tz64C.toArray E fz)
class GVI (F : HP) : Prop where
  gv : GV F
instance (A : HP) (l : List HP) [h : GVI (sepL l)] : GVI (sepL (A :: l)) := ⟨by
  obtain ⟨⟨e1, z1, h1⟩, ⟨e2, z2, h2⟩, ⟨e3, z3, h3⟩⟩ := h.gv
  exact ⟨⟨e1, z1, Rd_next h1⟩, ⟨e2, z2, Rd_next h2⟩, ⟨e3, z3, Rd_next h3⟩⟩⟩
instance (A : HP) (l : List HP) [h : GVI A] : GVI (sepL (A :: l)) := ⟨by
  obtain ⟨⟨e1, z1, h1⟩, ⟨e2, z2, h2⟩, ⟨e3, z3, h3⟩⟩ := h.gv
  exact ⟨⟨e1, z1, Rd_here h1⟩, ⟨e2, z2, Rd_here h2⟩, ⟨e3, z3, Rd_here h3⟩⟩⟩
theorem tz_at {j k : Nat} (h1 : j < 64) (h2 : Lib.deBruijn64tab.getD j 0 = k) : tz64C[j]? = some (.int .u8 (k : Int)) := by
 have hl : j < Lib.deBruijn64tab.length := h1
 rw [List.getD_eq_getElem?_getD, List.getElem?_eq_getElem hl, Option.getD_some] at h2
 rw [tz64C, List.getElem?_map, List.getElem?_eq_getElem hl, h2]; rfl
theorem tz_get {k : Nat} (hk : k < 64) : ∃ j, j < 64 ∧ 2 ^ k * 285870213051353865 % 2 ^ 64 / 2 ^ 58 = j ∧ tz64C[0 + ((j : Nat) : Int).toNat * 1]? = some (.int .u8 (k : Int)) := by
 obtain ⟨h1, h2⟩ := Lib.deBruijn64_at k hk
 refine ⟨_, h1, rfl, ?_⟩
 rw [Int.toNat_natCast, Nat.mul_one, Nat.zero_add]
 exact tz_at h1 h2
def wN64 (n : Nat) : Nat := (n + 63) / 64
structure BmRep where
  ad : Option Addr
  cap : Nat
def isBm (b n : Nat) (f : Nat → Bool) : HP := EX fun y : BmRep => pure' (∀ j, n ≤ j → f j = false) (sepL [pts b 332 [.int .i64 (n : Int), .slice y.ad (wN64 n) y.cap], slc 31 1 y.ad (wN64 n) y.cap (bmC f (wN64 n))])
theorem bm_zero (w : Nat) : bmC (fun _ => false) w = List.replicate w (.int .u64 0) := by
 rw [bmC, List.eq_replicate_iff]
 refine ⟨by simp, fun v hv => ?_⟩
 obtain ⟨k, _, rfl⟩ := List.mem_map.1 hv
 have : bmW (fun _ => false) k = 0 := Nat.eq_of_testBit_eq fun j => by rw [bmW_bit]; simp
 rw [this]; rfl
def setF (f : Nat → Bool) (i : Nat) (on : Bool) : Nat → Bool := fun x => if x = i then on else f x
theorem setF_eq {f : Nat → Bool} {i : Nat} {on : Bool} (h : f i = on) : setF f i on = f := by
 funext x; rw [setF]; split
 ·rename_i e; subst e; exact h.symm
 ·rfl
theorem setF_flip {f : Nat → Bool} {i : Nat} {on : Bool} (h : f i ≠ on) : setF f i on = flipB f i := by
 funext x; rw [setF, flipB]; split
 ·rename_i e; subst e; revert h; cases on <;> cases f x <;> simp
 ·rfl
theorem setF_out {f : Nat → Bool} {n i : Nat} (on : Bool) (hi : i < n) (h : ∀ j, n ≤ j → f j = false) : ∀ j, n ≤ j → setF f i on j = false := fun j hj => by
 rw [setF, if_neg (by omega)]; exact h j hj
def optI : Option Nat → Int
  | some i => (i : Int)
  | none => -1
def FstR (f : Nat → Bool) (on : Bool) (n o : Nat) : Option Nat → Prop
  | some i => IsFst f on n o i
  | none => NoFst f on n o
theorem bm_w0 {f : Nat → Bool} {k : Nat} : bmW f k = 0 ↔ ∀ j, 64 * k ≤ j → j < 64 * (k + 1) → f j = false := by
 constructor
 ·intro h j h1 h2
  have h3 := bmW_bit f k (j - 64 * k)
  rw [h, Nat.zero_testBit, decide_eq_true (by omega), Bool.true_and, show 64 * k + (j - 64 * k) = j by omega] at h3
  exact h3.symm
 ·intro h
  apply Nat.eq_of_testBit_eq
  intro j
  rw [Nat.zero_testBit, bmW_bit]
  by_cases hj : j < 64
  ·rw [h (64 * k + j) (by omega) (by omega), Bool.and_false]
  ·rw [decide_eq_false hj, Bool.false_and]
theorem cut0 {x : Nat} (h : x < 2 ^ 64) : x / 2 ^ 0 * 2 ^ 0 % 2 ^ 64 = x := by simp; omega
theorem oc64_ok (x : Nat) (hx : x < 2 ^ 64) : FSpec Tryz.prog 171 [.int .u64 (x : Int)] noRd [] (fun _ : Unit => .int .i64 (oc x : Int)) (fun _ => True) (fun _ => []) := by
 refine fI Tryz.func171 Tryz.ntmps171 ?_
 intro F _
 refine zz [37] ?_
 obtain ⟨-, -, h1, h2, h3⟩ := oc_val hx
 have h4 : oc4 (oc3 (oc2 (oc1 x))) < 2 ^ 61 := by rw [oc4]; omega
 have h5 : oc5 (oc4 (oc3 (oc2 (oc1 x)))) < 2 ^ 62 := by rw [oc5]; omega
 have h6 : oc6 (oc5 (oc4 (oc3 (oc2 (oc1 x))))) < 2 ^ 63 := by rw [oc6]; omega
 refine zz [0,1,4,2,0,1,3] ?_
 refine q rfl rfl (shrU (n := 1) rfl rfl hx rfl) ?_
 refine q rfl rfl (andU (b := 6148914691236517205) rfl rfl (by omega) (by decide) rfl) ?_
 refine zz [3] ?_
 refine q rfl rfl (andU (b := 6148914691236517205) rfl rfl hx (by decide) rfl) ?_
 refine q rfl rfl (addU (c := oc1 x) rfl rfl rfl h1) ?_
 refine zz [4,2,0,1,3] ?_
 refine q rfl rfl (shrU (n := 2) rfl rfl h1 rfl) ?_
 refine q rfl rfl (andU (b := 3689348814741910323) rfl rfl (by omega) (by decide) rfl) ?_
 refine zz [3] ?_
 refine q rfl rfl (andU (b := 3689348814741910323) rfl rfl h1 (by decide) rfl) ?_
 refine q rfl rfl (addU (c := oc2 (oc1 x)) rfl rfl rfl (by omega)) ?_
 refine zz [4,2,0,1,3] ?_
 refine q rfl rfl (shrU (n := 4) rfl rfl (by omega) rfl) ?_
 refine zz [3] ?_
 refine q rfl rfl (addU rfl rfl rfl (by omega)) ?_
 refine q rfl rfl (andU (b := 1085102592571150095) (c := oc3 (oc2 (oc1 x))) rfl rfl (by omega) (by decide) rfl) ?_
 refine zz [4,2,0,1,3,3] ?_
 refine q rfl rfl (shrU (n := 8) rfl rfl (by omega) rfl) ?_
 refine q rfl rfl (addU (c := oc4 (oc3 (oc2 (oc1 x)))) rfl rfl rfl (by omega)) ?_
 refine zz [4,2,0,1,3,3] ?_
 refine q rfl rfl (shrU (n := 16) rfl rfl (by omega) rfl) ?_
 refine q rfl rfl (addU (c := oc5 (oc4 (oc3 (oc2 (oc1 x))))) rfl rfl rfl (by omega)) ?_
 refine zz [4,2,0,1,3,3] ?_
 refine q rfl rfl (shrU (n := 32) rfl rfl (by omega) rfl) ?_
 refine q rfl rfl (addU (c := oc6 (oc5 (oc4 (oc3 (oc2 (oc1 x)))))) rfl rfl rfl (by omega)) ?_
 refine zz [4,2,0,1,3] ?_
 refine q rfl rfl (conv .u64 .i64 rfl rfl rfl (wN h6)) ?_
 refine q rfl rfl (andI (b := 127) (c := oc x) rfl rfl h6 (by decide) rfl) ?_
 refine zz [4,2,11] ?_
 exact zc2
theorem oc_ok (x : Nat) (hx : x < 2 ^ 64) : FSpec Tryz.prog 116 [.int .u64 (x : Int)] noRd [] (fun _ : Unit => .int .i64 (oc x : Int)) (fun _ => True) (fun _ => []) := by
 refine fI Tryz.func116 Tryz.ntmps116 ?_
 intro F _
 refine zz [37,0,1,4,2,0,10,7,0,1,3,5] ?_
 refine cl (oc64_ok x hx) rfl (picked_nil _) trivial ?_
 intro _ _
 refine zz [98,4,2,11] ?_
 exact zc2
theorem tz64_ok (x : Nat) (hx : x < 2 ^ 64) : FSpec Tryz.prog 173 [.int .u64 (x : Int)] GV [] (fun _ : Unit => .int .i64 (Lib.ctz 64 x : Int)) (fun _ => True) (fun _ => []) := by
 refine fI Tryz.func173 Tryz.ntmps173 ?_
 intro F hF
 refine zz [37,0,1,4,2,0,0,1,3,30,2] ?_
 first | refine TC.condD rfl (fun h0 => ?_) (fun h0 => ?_) | refine TC.cond rfl (fun h0 => ?_) (fun h0 => ?_)
 ·obtain rfl : x = 0 := by omega
  have hz : Lib.ctz 64 0 = 64 := rfl
  rw [hz]
  refine zz [0,1,4,2,51] ?_
  exact zc2
 ·have h0 : x ≠ 0 := fun e => h0 (by rw [e]; rfl)
  obtain ⟨hlow, hk⟩ := Lib.lowest_bit 64 x h0 hx
  obtain ⟨j, hi, hj, hg⟩ := tz_get hk
  obtain ⟨_, ⟨E, fz, hT⟩⟩ := (⟨True.intro, hF.tz⟩ : True ∧ _)
  haveI : RdI F 3 (.cells tz64C.toArray E fz) := ⟨hT⟩
  generalize Lib.ctz 64 x = k at hlow hk hj hg ⊢
  have hkb : 2 ^ k < 2 ^ 64 := Nat.pow_lt_pow_right (by decide) hk
  refine zz [7,0,1,3,3] ?_
  refine q rfl rfl (negU rfl h0 hx) ?_
  refine q rfl rfl (andU (c := 2 ^ k) rfl rfl hx (by omega) hlow) ?_
  refine q rfl rfl (mulU (b := 285870213051353865) rfl rfl rfl) ?_
  refine q rfl rfl (shrU (n := 58) (c := j) rfl rfl (Nat.mod_lt _ (by decide)) hj) ?_
  refine q rfl rfl (ixAl 64 5 1 rfl rfl rfl (by omega) (by omega)) ?_
  refine q rfl rfl (ld rfl rfl hg) ?_
  refine q rfl rfl (conv .u8 .i64 rfl rfl rfl (wN (by omega))) ?_
  refine zz [4,2,11] ?_
  exact zc2
theorem tz_ok (x : Nat) (hx : x < 2 ^ 64) : FSpec Tryz.prog 117 [.int .u64 (x : Int)] GV [] (fun _ : Unit => .int .i64 (Lib.ctz 64 x : Int)) (fun _ => True) (fun _ => []) := by
 refine fI Tryz.func117 Tryz.ntmps117 ?_
 intro F hF
 refine zz [37] ?_
 haveI : GVI F := ⟨hF⟩
 refine zz [0,1,4,2,0,10,7,0,1,3,5] ?_
 refine cl (tz64_ok x hx) rfl (picked_nil _) GVI.gv ?_
 intro _ _
 refine zz [98,4,2,11] ?_
 exact zc2
theorem bmnew_ok (n : Nat) (h : n ≤ 1048576) : FSpec Tryz.prog 118 [.int .i64 (n : Int)] noRd [] (fun b : Nat => .pointer (some ⟨b, 0, none⟩)) (fun _ => True) (fun b => [isBm b n (fun _ => false)]) := by
 refine fI Tryz.func118 Tryz.ntmps118 ?_
 intro F _
 refine zz [37,0,1,24,2,0,0,1,3,38,20] ?_
 refine TL.known 5 rfl (c := false) (decide_eq_false (by omega)) ?_
 refine zz [32,84,19,2] ?_
 refine TC.condD rfl (fun hc1 => absurd hc1 (by omega)) (fun hc1 => ?_)
 refine zz [7,0,1,3,3,36,128] ?_
 refine q rfl rfl (OQ.to (v := ((wN64 n : Nat) : Int)) (quoI rfl rfl (by omega) (by omega) (by omega)) (by rw [wN64]; omega)) ?_
 refine e rfl ?_
 refine mk1 (E := 31) (n := wN64 n) (z := .int .u64 0) 8 rfl rfl rfl rfl rfl rfl (by rw [wN64]; omega) (by rw [wN64]; simp only [maxLen]; omega) ?_
 intro b1
 first | refine q rfl rfl (bld (cs := [.int _ _, .slice _ _ _]) rfl) ?_ | refine q rfl rfl (bld (cs := [_, _]) rfl) ?_
 refine e rfl ?_
 refine bx (v := .agg #[_, _]) (l := [.int _ _, .slice _ _ _]) rfl rfl ?_
 intro b2
 refine zz [24,2,11] ?_
 exact Ret.i b2 [_] ⟨rfl, trivial⟩ rfl trivial (ent_close (⟨some ⟨b1, 0, none⟩, wN64 n⟩ : BmRep) (fun _ _ => rfl) (ent_take 0 rfl (by rw [bm_zero]; exact (ent_take 0 rfl (ent_take 0 rfl (ent_nil _))))))
theorem bmlen_ok (b n : Nat) (v : Value) : FSpec Tryz.prog 174 [.pointer (some ⟨b, 0, none⟩)] noRd [pts b 332 [.int .i64 (n : Int), v]] (fun _ : Unit => .int .i64 (n : Int)) (fun _ => True) (fun _ => [pts b 332 [.int .i64 (n : Int), v]]) := by
 refine fI Tryz.func174 Tryz.ntmps174 ?_
 intro F _
 refine zz [39,0,1,4,2,0,0,1,6,34,2,10,7,0,1,6,13,14,12,4,2,11] ?_
 exact zc1
theorem bmget_ok (b n : Nat) (f : Nat → Bool) (i : Nat) (hn : n ≤ 1048576) : FSpec Tryz.prog 175 [.pointer (some ⟨b, 0, none⟩), .int .i64 (i : Int)] noRd [isBm b n f] (fun _ : Unit => .bool (f i)) (fun _ => True) (fun _ => [isBm b n f]) := by
 refine fI Tryz.func175 Tryz.ntmps175 ?_
 intro F _
 refine zz [39] ?_
 refine TC.open 0 rfl (fun x0 hx0 => ?_)
 obtain ⟨ad, cap⟩ := x0
 have hz := hx0
 refine zz [44] ?_
 dsimp only at hz ⊢
 refine zz [0,1,9,2,0,1,3,111,20] ?_
 refine TL.known 7 rfl (c := true) (decide_eq_true (by omega)) ?_
 refine zz [32,85,59] ?_
 refine cl (bmlen_ok b n (.slice ad (wN64 n) cap)) rfl PkL.p trivial ?_
 intro _ _
 refine zz [43,88,19,20] ?_
 refine TL.split 13 rfl (fun h0 => ?_) (fun h0 => ?_)
 ·have h0 := of_decide_eq_true h0
  have hw : i / 64 < wN64 n := by rw [wN64]; omega
  have hcl := bmC_length f (wN64 n)
  have hpos : 0 < (bmC f (wN64 n)).length := by omega
  have hbit := bm_bit f i
  have hwl := bmW_lt f (i / 64)
  refine zz [85,112,97] ?_
  first | refine qg rfl rfl rfl (ld rfl rfl rfl) ?_ | refine qg rfl rfl rfl (ldS rfl rfl (by rw [Nat.mul_one]; exact bmC_get f hw)) ?_ | refine qg rfl rfl rfl (ldS rfl rfl rfl) ?_
  refine zz [32] ?_
  refine qg rfl rfl rfl (OQ.to (v := ((i / 64 : Nat) : Int)) (quoI rfl rfl (by omega) (by omega) (by omega)) (by omega)) ?_
  first | refine qg rfl rfl rfl (ixS 31 1 rfl rfl rfl (by omega) asm0) ?_ | refine qg rfl rfl rfl (ixJ 31 1 rfl rfl rfl (by omega) (by omega) asm0) ?_ | refine qg rfl rfl rfl (ix 31 1 rfl rfl rfl (by omega) (by omega) rfl) ?_
  first | refine qg rfl rfl rfl (ld rfl rfl rfl) ?_ | refine qg rfl rfl rfl (ldS rfl rfl (by rw [Nat.mul_one]; exact bmC_get f hw)) ?_ | refine qg rfl rfl rfl (ldS rfl rfl rfl) ?_
  refine zz [32] ?_
  refine qg rfl rfl rfl (OQ.to (v := ((i % 64 : Nat) : Int)) (remI rfl rfl (by omega) (by omega)) (by omega)) ?_
  refine qg rfl rfl rfl (shrU rfl rfl hwl rfl) ?_
  refine qg rfl rfl rfl (OQ.to (v := ((if f i = true then 1 else 0 : Nat) : Int)) (and1 rfl rfl (Nat.lt_of_le_of_lt (Nat.div_le_self _ _) hwl)) (congrArg Int.ofNat hbit)) ?_
  refine zz [74,19,9,2,11] ?_
  exact Ret.i () [_] ⟨rfl, trivial⟩ (congrArg Value.bool (by cases hf : f i <;> simp)) trivial (ent_close (⟨ad, cap⟩ : BmRep) hz entS)
 ·have h0 := of_decide_eq_false h0
  have hv : f i = false := hz i (by omega)
  rw [hv]
  refine zz [22,22,22,22,22,22,22,22,22,22,22,22,22,19,9,2,11] ?_
  exact Ret.i () [_] ⟨rfl, trivial⟩ rfl trivial (ent_close (⟨ad, cap⟩ : BmRep) hz entS)
theorem bmset_ok (b n : Nat) (f : Nat → Bool) (i : Nat) (on : Bool) (ax : Option Addr) (cx : Nat) (hi : i < n) (hn : n ≤ 1048576) : FSpec Tryz.prog 119 [.pointer (some ⟨b, 0, none⟩), .bool on, .slice ax 1 cx] (fun F => ∃ E, RdS F E ax (ints [(i : Int)])) [isBm b n f] (fun _ : Unit => .int .i64 (if f i = on then 0 else 1)) (fun _ => True) (fun _ => [isBm b n (setF f i on)]) := by
 refine fI Tryz.func119 Tryz.ntmps119 ?_
 intro F ⟨E, hF⟩
 refine zz [39] ?_
 haveI : RdSI F ax E (ints [(i : Int)]) := ⟨hF⟩
 refine zz [0,1,4,2,0,1,4,2,0,0,1,29,91,3,2,17] ?_
 refine TC.loop (ι := Nat) (fun k => k ≤ 1) (fun k => [(0, .pointer (some ⟨b, 0, none⟩)), (1, .bool on), (7, .int .i64 (if k = 0 then 0 else if f i = on then 0 else 1)), (10, .slice ax 1 cx), (11, .int .i64 1), (12, .int .i64 ((k : Nat) : Int))]) (fun k => sepL [isBm b n (if k = 0 then f else setF f i on), F]) (fun k => 1 - k) 0 (by omega) ⟨rfl, rfl, rfl, rfl, rfl, rfl, trivial⟩ (ent_take 0 rfl (ent_take 0 rfl (ent_nil _))) ?_
 rintro k hk ρ0
 dsimp only [updL] at hk ⊢
 refine zz [0,1,38,2,0] ?_
 first | refine TC.condD rfl (fun hlt => ?_) (fun hlt => ?_) | refine TC.cond rfl (fun hlt => ?_) (fun hlt => ?_)
 ·obtain rfl : k = 0 := by omega
  have hpos : 0 < (ints [(i : Int)]).length := by simp [ints]
  rw [if_pos rfl, if_pos rfl]
  refine TC.open 0 rfl (fun x0 hx0 => ?_)
  obtain ⟨ad, cap⟩ := x0
  have hz := hx0
  refine zz [44] ?_
  dsimp only at hz ⊢
  refine zz [7,0,17,0,1,81] ?_
  first | refine q rfl rfl (ld rfl rfl rfl) ?_ | refine q rfl rfl (ldS rfl rfl (ints_get (xs := [(i : Int)]) (i := 0) rfl)) ?_ | refine q rfl rfl (ldS rfl rfl rfl) ?_
  refine zz [4,2,0,1,3,111,20] ?_
  refine TL.known 18 rfl (c := true) (decide_eq_true (by omega)) ?_
  refine zz [32,85,59] ?_
  refine cl (bmlen_ok b n (.slice ad (wN64 n) cap)) rfl PkL.p trivial ?_
  intro _ _
  refine zz [43,88,19,20] ?_
  refine TL.known 24 rfl (c := true) (decide_eq_true (by omega)) ?_
  refine zz [85,32] ?_
  refine TL.weak (B := sepL [isBm b n f, F]) (ent_close (⟨ad, cap⟩ : BmRep) hz entS) ?_
  refine eg rfl rfl ?_
  refine cl (bmget_ok b n f i hn) rfl PkL.p trivial ?_
  intro _ _
  refine zz [66,117] ?_
  refine qg rfl rfl rfl (neBo rfl rfl rfl) ?_
  refine zz [19,2] ?_
  first | refine TC.condD rfl (fun hne => ?_) (fun hne => ?_) | refine TC.cond rfl (fun hne => ?_) (fun hne => ?_)
  ·have hne : f i ≠ on := by simpa using hne
   have hsf := setF_flip (f := f) (i := i) (on := on) hne
   have hw : i / 64 < wN64 n := by rw [wN64]; omega
   have hcl := bmC_length f (wN64 n)
   have hpos2 : 0 < (bmC f (wN64 n)).length := by omega
   have hfl := bmC_flip f hw
   have hwl := bmW_lt f (i / 64)
   have hpw : 2 ^ (i % 64) < 2 ^ 64 := Nat.pow_lt_pow_right (by decide) (by omega)
   have hout : ∀ j, n ≤ j → setF f i on j = false := setF_out on hi hz
   refine TC.open 0 rfl (fun x0 hx0 => ?_)
   obtain ⟨ad, cap⟩ := x0
   have hz2 := hx0
   refine zz [44] ?_
   dsimp only at hz2 ⊢
   refine TC.seq ?_
   refine TC.draw _ [13] [(0, false), (1, false), (2, false), (3, false), (4, false), (5, false), (6, false), (7, false), (8, false), (9, false), (10, false), (11, false), (12, false), (13, true)] (by kernel_rfl) (by kernel_rfl) (ent.refl _) ?_
   refine zz [28,31,60] ?_
   first | refine dq rfl rfl rfl (ld rfl rfl rfl) ?_ | refine dq rfl rfl rfl (ldS rfl rfl (by rw [Nat.mul_one]; exact bmC_get f hw)) ?_ | refine dq rfl rfl rfl (ldS rfl rfl rfl) ?_
   refine zz [33] ?_
   refine dq rfl rfl rfl (OQ.to (v := ((i / 64 : Nat) : Int)) (quoI rfl rfl (by omega) (by omega) (by omega)) (by omega)) ?_
   refine zz [185] ?_
   first | refine dq rfl rfl rfl (ld rfl rfl rfl) ?_ | refine dq rfl rfl rfl (ldS rfl rfl (by rw [Nat.mul_one]; exact bmC_get f hw)) ?_ | refine dq rfl rfl rfl (ldS rfl rfl rfl) ?_
   refine zz [33] ?_
   refine dq rfl rfl rfl (OQ.to (v := ((i % 64 : Nat) : Int)) (remI rfl rfl (by omega) (by omega)) (by omega)) ?_
   refine dq rfl rfl rfl (shl1 rfl rfl (by omega)) ?_
   refine dq rfl rfl rfl (xorU rfl rfl hwl hpw rfl) ?_
   refine zz [185,70] ?_
   first | refine st (v := .int _ _) (vs := [_]) 1 rfl rfl rfl rfl rfl rfl (Nat.le_of_ble_eq_true rfl) rfl ?_ | refine stS (v := .int _ _) (vs := [_]) 1 rfl rfl rfl rfl rfl rfl (by decide) (by omega) (by rw [Nat.mul_one, hfl]) ?_
   refine zz [27,1,3,36,4,63,1,36,3,2] ?_
   exact ⟨rfl, (0 + 1), (by omega), (by omega), ⟨rfl, rfl, (show Value.int .i64 (0 + 1) = _ from by rw [if_neg (by omega), if_neg hne]; rfl), rfl, rfl, rfl, trivial⟩, (by rw [if_neg (by omega), hsf]; rw [hsf] at hout; exact (ent_close (⟨_, _⟩ : BmRep) hout entS))⟩
  ·have he : f i = on := by simpa using hne
   have hsf := setF_eq he
   refine zz [42,1,36,3,2] ?_
   exact ⟨rfl, (0 + 1), (by omega), (by omega), ⟨rfl, rfl, (show Value.int .i64 0 = _ from by rw [if_neg (by omega), if_pos he]), rfl, rfl, rfl, trivial⟩, (by rw [if_neg (by omega), hsf]; exact entS)⟩
 ·obtain rfl : k = 1 := by omega
  have h10 : ¬ ((1 : Nat) = 0) := by omega
  rw [if_neg h10, if_neg h10]
  refine zz [50,0,1,3,4,2,11] ?_
  exact zc1
theorem bmword_ok (b n : Nat) (f : Nat → Bool) (on : Bool) (k : Nat) (hk : k < wN64 n) : FSpec Tryz.prog 176 [.pointer (some ⟨b, 0, none⟩), .bool on, .int .i64 (k : Int)] noRd [isBm b n f] (fun _ : Unit => .int .u64 (onW on (bmW f k) : Int)) (fun _ => True) (fun _ => [isBm b n f]) := by
 refine fI Tryz.func176 Tryz.ntmps176 ?_
 intro F _
 refine zz [39] ?_
 refine TC.open 0 rfl (fun x0 hx0 => ?_)
 obtain ⟨ad, cap⟩ := x0
 have hz := hx0
 refine zz [44] ?_
 dsimp only at hz ⊢
 have hcl := bmC_length f (wN64 n)
 have hpos : 0 < (bmC f (wN64 n)).length := by omega
 have hwl := bmW_lt f k
 refine zz [0,1,4,2,0,0,1,20,2] ?_
 cases on with
 | true => ?_
 | false => ?_
 ·refine zz [40,0,1,6,13,47] ?_
  first | refine q rfl rfl (ld rfl rfl rfl) ?_ | refine q rfl rfl (ldS rfl rfl (by rw [Nat.mul_one]; exact bmC_get f hk)) ?_ | refine q rfl rfl (ldS rfl rfl rfl) ?_
  refine zz [3,186] ?_
  first | refine q rfl rfl (ld rfl rfl rfl) ?_ | refine q rfl rfl (ldS rfl rfl (by rw [Nat.mul_one]; exact bmC_get f hk)) ?_ | refine q rfl rfl (ldS rfl rfl rfl) ?_
  refine zz [4,2,51] ?_
  exact Ret.i () [_] ⟨rfl, trivial⟩ (by rw [onW, if_pos rfl]; rfl) trivial (ent_close (⟨ad, cap⟩ : BmRep) hz entS)
 ·refine zz [10,7,0,1,6,13,47] ?_
  first | refine q rfl rfl (ld rfl rfl rfl) ?_ | refine q rfl rfl (ldS rfl rfl (by rw [Nat.mul_one]; exact bmC_get f hk)) ?_ | refine q rfl rfl (ldS rfl rfl rfl) ?_
  refine zz [3,186] ?_
  first | refine q rfl rfl (ld rfl rfl rfl) ?_ | refine q rfl rfl (ldS rfl rfl (by rw [Nat.mul_one]; exact bmC_get f hk)) ?_ | refine q rfl rfl (ldS rfl rfl rfl) ?_
  refine q rfl rfl (comN rfl hwl) ?_
  refine zz [4,2,11] ?_
  exact Ret.i () [_] ⟨rfl, trivial⟩ (by rw [onW, if_neg (by decide)]; rfl) trivial (ent_close (⟨ad, cap⟩ : BmRep) hz entS)
theorem bmfirst_ok (b n : Nat) (f : Nat → Bool) (on : Bool) (o : Nat) (ho : o ≤ 1048577) (hn : n ≤ 1048576) : FSpec Tryz.prog 121 [.pointer (some ⟨b, 0, none⟩), .bool on, .int .i64 (o : Int)] GV [isBm b n f] (fun y : Option Nat => .int .i64 (optI y)) (fun y => FstR f on n o y) (fun _ => [isBm b n f]) := by
 refine fI Tryz.func121 Tryz.ntmps121 ?_
 intro F hF
 refine zz [39] ?_
 haveI : GVI F := ⟨hF⟩
 refine zz [0,1,4,2,0,1,3] ?_
 refine q rfl rfl (OQ.to (v := (o : Int)) (maxI rfl rfl) (Int.max_eq_left (by omega))) ?_
 refine zz [4,2,0,0,1,3] ?_
 refine q rfl rfl (OQ.to (v := ((o / 64 : Nat) : Int)) (quoI rfl rfl (by omega) (by omega) (by omega)) (by omega)) ?_
 refine zz [4,2,17] ?_
 refine TC.loop (ι := Nat) (fun k => (o / 64 ≤ k ∧ k ≤ 20000) ∧ ∀ j, o ≤ j → j < 64 * k → j < n → f j ≠ on) (fun k => [(0, .pointer (some ⟨b, 0, none⟩)), (1, .bool on), (2, .int .i64 (o : Int)), (7, .int .i64 ((k : Nat) : Int))]) (fun k => sepL [isBm b n f, F]) (fun k => 20000 - k) (o / 64) ⟨⟨Nat.le_refl _, by omega⟩, fun j h1 h2 _ => by omega⟩ ⟨rfl, rfl, rfl, rfl, trivial⟩ (ent_take 0 rfl (ent_take 0 rfl (ent_nil _))) ?_
 rintro k ⟨⟨hk1, hk2⟩, hno⟩ ρ0
 dsimp only [updL] at hk1 hk2 hno ⊢
 refine TC.open 0 rfl (fun x0 hx0 => ?_)
 obtain ⟨ad, cap⟩ := x0
 have hz := hx0
 refine zz [44] ?_
 dsimp only at hz ⊢
 refine zz [0,0,1,3,184,6,5] ?_
 refine cl (bmlen_ok b n (.slice ad (wN64 n) cap)) rfl PkL.p trivial ?_
 intro _ _
 refine zz [43,38,2] ?_
 first | refine TC.condD rfl (fun hlt => ?_) (fun hlt => ?_) | refine TC.cond rfl (fun hlt => ?_) (fun hlt => ?_)
 ·refine TC.weak (B := sepL [isBm b n f, F]) (ent_close (⟨ad, cap⟩ : BmRep) hz entS) ?_
  have hkw : k < wN64 n := by rw [wN64]; omega
  have hwl := onW_lt (on := on) (bmW_lt f k)
  refine zz [7,0,17,0,1,6,20,3,5] ?_
  refine cl (bmword_ok b n f on k hkw) rfl PkL.p trivial ?_
  intro _ _
  refine zz [66,4,2] ?_
  refine TC.cut (ι := Nat) (fun s => s < 64 ∧ o ≤ max o (64 * k) ∧ max o (64 * k) = 64 * k + s) (fun s => [(0, .pointer (some ⟨b, 0, none⟩)), (1, .bool on), (2, .int .i64 (o : Int)), (7, .int .i64 ((k : Nat) : Int)), (8, .int .u64 ((onW on (bmW f k) / 2 ^ s * 2 ^ s % 2 ^ 64 : Nat) : Int))]) (fun s => sepL [isBm b n f, F]) ?_ ?_
  ·refine zz [0,1,3,3] ?_
   refine q rfl rfl (OQ.to (v := ((o / 64 : Nat) : Int)) (quoI rfl rfl (by omega) (by omega) (by omega)) (by omega)) ?_
   refine zz [30,2] ?_
   first | refine TC.condD rfl (fun he => ?_) (fun he => ?_) | refine TC.cond rfl (fun he => ?_) (fun he => ?_)
   ·have he : k = o / 64 := by omega
    refine zz [1,3,3] ?_
    refine q rfl rfl (OQ.to (v := ((o % 64 : Nat) : Int)) (remI rfl rfl (by omega) (by omega)) (by omega)) ?_
    refine q rfl rfl (shrU rfl rfl hwl rfl) ?_
    refine zz [3] ?_
    refine q rfl rfl (OQ.to (v := ((o % 64 : Nat) : Int)) (remI rfl rfl (by omega) (by omega)) (by omega)) ?_
    refine q rfl rfl (shlU rfl rfl (by omega) rfl) ?_
    refine zz [4,2] ?_
    exact ⟨rfl, (o % 64), ⟨by omega, by omega, by omega⟩, ⟨rfl, rfl, rfl, rfl, rfl, trivial⟩, entS⟩
   ·have he : k ≠ o / 64 := fun e => he (by omega)
    refine zz [7] ?_
    exact ⟨rfl, 0, ⟨by omega, by omega, by omega⟩, ⟨rfl, rfl, rfl, rfl, by rw [cut0 hwl]; rfl, trivial⟩, entS⟩
  ·rintro s ⟨hs, hso, hsm⟩ ρ1
   dsimp only [updL] at hs hso hsm ⊢
   have hz0 := word_none (f := f) (on := on) (k := k) hs
   have hz1 := word_first (f := f) (on := on) (k := k) hs
   have hxl : onW on (bmW f k) / 2 ^ s * 2 ^ s % 2 ^ 64 < 2 ^ 64 := Nat.mod_lt _ (by decide)
   generalize onW on (bmW f k) / 2 ^ s * 2 ^ s % 2 ^ 64 = x at hz0 hz1 hxl ⊢
   refine zz [0,1,3,184,3,5] ?_
   refine cl (tz64_ok x hxl) rfl (picked_nil _) GVI.gv ?_
   intro _ _
   refine zz [66] ?_
   have hcl : Lib.ctz 64 x ≤ 64 := by
    by_cases e : x = 0
    ·subst e; decide
    ·obtain ⟨c, h1, h2, _⟩ := hz1 e; omega
   refine zz [36,4,2,0,1,3,23,20] ?_
   refine TL.split 43 rfl (fun hx0 => ?_) (fun hx0 => ?_)
   ·have hx0 := of_decide_eq_true hx0
    obtain ⟨c, h1, h2, h3, h4, h5⟩ := hz1 (fun e => hx0 (by rw [e]; rfl))
    rw [h1]
    refine TL.open 0 rfl (fun x0 hx0 => ?_)
    obtain ⟨ad, cap⟩ := x0
    have hz2 := hx0
    refine zz [43] ?_
    dsimp only at hz2 ⊢
    refine zz [32,85,112,96,52,88,19,2] ?_
    first | refine TC.condD rfl (fun hin => ?_) (fun hin => ?_) | refine TC.cond rfl (fun hin => ?_) (fun hin => ?_)
    ·refine zz [0,1,3,4,2,143] ?_
     exact Ret.i (some (64 * k + c)) [_] ⟨rfl, trivial⟩ (congrArg (Value.int .i64) (show _ = ((64 * k + c : Nat) : Int) by omega)) ⟨by omega, by omega, h4, fun j j1 j2 => by
      by_cases e : j < 64 * k
      ·exact hno j j1 e (by omega)
      ·exact h5 j (by omega) j2⟩ (ent_close (⟨ad, cap⟩ : BmRep) hz2 entS)
    ·refine zz [42,1,3,36,4,2] ?_
     exact ⟨rfl, (k + 1), ⟨⟨by omega, by omega⟩, fun j j1 j2 j3 => by
      by_cases e : j < 64 * k
      ·exact hno j j1 e j3
      ·exact h5 j (by omega) (by omega)⟩, (by omega), ⟨rfl, rfl, rfl, rfl, trivial⟩, (ent_close (⟨ad, cap⟩ : BmRep) hz2 entS)⟩
   ·have hx0 := of_decide_eq_false hx0
    have hx0 : x = 0 := by omega
    refine zz [22,22,22,22,22,22,19,2,10,42,1,3,36,4,2] ?_
    exact ⟨rfl, (k + 1), ⟨⟨by omega, by omega⟩, fun j j1 j2 j3 => by
     by_cases e : j < 64 * k
     ·exact hno j j1 e j3
     ·exact hz0 hx0 (by omega) (by omega)⟩, (by omega), ⟨rfl, rfl, rfl, rfl, trivial⟩, entS⟩
 ·have hnf : NoFst f on n o := fun j h1 h2 => hno j h1 (by omega) h2
  refine zz [50,0,1,4,2,11] ?_
  exact Ret.i (none : Option Nat) [_] ⟨rfl, trivial⟩ rfl hnf (ent_close (⟨ad, cap⟩ : BmRep) hz entS)
theorem bmcount_ok (b n : Nat) (f : Nat → Bool) (hn : n ≤ 1048576) : FSpec Tryz.prog 184 [.pointer (some ⟨b, 0, none⟩)] noRd [isBm b n f] (fun c : Nat => .int .i64 (c : Int)) (fun c => c = 0 ↔ ∀ j, f j = false) (fun _ => [isBm b n f]) := by
 refine fI Tryz.func184 Tryz.ntmps184 ?_
 intro F _
 refine zz [39] ?_
 refine TC.open 0 rfl (fun x0 hx0 => ?_)
 obtain ⟨ad, cap⟩ := x0
 have hz := hx0
 refine zz [44] ?_
 dsimp only at hz ⊢
 refine zz [0,1,4,2,0,1,4,2,0,0,1,6,5] ?_
 refine cl (bmlen_ok b n (.slice ad (wN64 n) cap)) rfl PkL.p trivial ?_
 intro _ _
 refine zz [43] ?_
 have hwb : wN64 n ≤ 16384 := by rw [wN64]; omega
 refine zz [36,128] ?_
 refine q rfl rfl (OQ.to (v := ((wN64 n : Nat) : Int)) (quoI rfl rfl (by omega) (by omega) (by omega)) (by rw [wN64]; omega)) ?_
 refine zz [3,2,17] ?_
 refine TC.loop (ι := Nat × Nat) (fun x => (x.1 ≤ wN64 n ∧ x.2 ≤ 64 * x.1) ∧ (x.2 = 0 ↔ ∀ j, j < 64 * x.1 → f j = false)) (fun x => [(0, .pointer (some ⟨b, 0, none⟩)), (3, .int .i64 ((x.2 : Nat) : Int)), (9, .int .i64 ((wN64 n : Nat) : Int)), (10, .int .i64 ((x.1 : Nat) : Int))]) (fun x => sepL [pts b 332 [.int .i64 (n : Int), .slice ad (wN64 n) cap], slc 31 1 ad (wN64 n) cap (bmC f (wN64 n)), F]) (fun x => wN64 n - x.1) (0, 0) ⟨⟨Nat.zero_le _, Nat.zero_le _⟩, ⟨fun _ j h => by omega, fun _ => rfl⟩⟩ ⟨rfl, rfl, rfl, rfl, trivial⟩ (ent_take 0 rfl (ent_take 0 rfl (ent_take 0 rfl (ent_nil _)))) ?_
 rintro ⟨k, c⟩ ⟨⟨hk, hc⟩, hi⟩ ρ0
 dsimp only [updL] at hk hc hi ⊢
 refine zz [0,1,38,2,0] ?_
 first | refine TC.condD rfl (fun hlt => ?_) (fun hlt => ?_) | refine TC.cond rfl (fun hlt => ?_) (fun hlt => ?_)
 ·have hlt2 : k < wN64 n := by omega
  have hcl := bmC_length f (wN64 n)
  have hpos : 0 < (bmC f (wN64 n)).length := by omega
  have hwl := bmW_lt f k
  obtain ⟨o1, o2, -⟩ := oc_val hwl
  refine zz [7,0,17,0,1,3,4,2,1,3,6,13,47] ?_
  first | refine q rfl rfl (ld rfl rfl rfl) ?_ | refine q rfl rfl (ldS rfl rfl (by rw [Nat.mul_one]; exact bmC_get f hlt2)) ?_ | refine q rfl rfl (ldS rfl rfl rfl) ?_
  refine zz [3,186] ?_
  first | refine q rfl rfl (ld rfl rfl rfl) ?_ | refine q rfl rfl (ldS rfl rfl (by rw [Nat.mul_one]; exact bmC_get f hlt2)) ?_ | refine q rfl rfl (ldS rfl rfl rfl) ?_
  refine e rfl ?_
  refine cl (oc64_ok (bmW f k) hwl) rfl (picked_nil _) trivial ?_
  intro _ _
  refine zz [43] ?_
  refine q rfl rfl (OQ.to (v := ((c + oc (bmW f k) : Nat) : Int)) (addI rfl rfl (by omega) (by omega)) (by omega)) ?_
  refine zz [4,63,1,36,3,2] ?_
  exact ⟨rfl, (k + 1, c + oc (bmW f k)), ⟨⟨by omega, by dsimp only; omega⟩, by
   dsimp only
   rw [Nat.add_eq_zero_iff, o2, bm_w0, hi]
   exact ⟨fun ⟨h1, h2⟩ j hj => by
    by_cases e : j < 64 * k
    ·exact h1 j e
    ·exact h2 j (by omega) hj, fun h => ⟨fun j hj => h j (by omega), fun j _ h2 => h j h2⟩⟩⟩, (by dsimp only; omega), ⟨rfl, rfl, rfl, rfl, trivial⟩, entS⟩
 ·obtain rfl : k = wN64 n := by omega
  have hfin : c = 0 ↔ ∀ j, f j = false := by
   rw [hi]
   exact ⟨fun h j => by
    by_cases e : j < 64 * wN64 n
    ·exact h j e
    ·exact hz j (by rw [wN64] at e; omega), fun h j _ => h j⟩
  refine zz [50,0,1,3,4,2,11] ?_
  exact Ret.i c [_] ⟨rfl, trivial⟩ rfl hfin (ent_close (⟨ad, cap⟩ : BmRep) hz entS)
structure ArRep where
  mb : Nat
def isAr (b : Nat) (m : Nat → Nat) (n : Nat) : HP := EX fun y : ArRep => pure' (byteOK m) (sepL [pts b 258 [.slice (some ⟨y.mb, 0, none⟩) n n], pts y.mb 5 (byC m n)])
theorem by_at (m : Nat → Nat) {n o j : Nat} (h : o + j < n) : (byC m n)[o + j * 1]? = some (.int .u8 (m (o + j) : Int)) := by rw [Nat.mul_one]; exact byC_get m h
theorem arnew_ok (n : Nat) (h : n = 65536 ∨ n = 131072) : FSpec Tryz.prog 70 [.int .i64 (n : Int)] noRd [] (fun b : Nat => .pointer (some ⟨b, 0, none⟩)) (fun _ => True) (fun b => [isAr b (fun _ => 0) n]) := by
 refine fI Tryz.func70 Tryz.ntmps70 ?_
 intro F _
 refine zz [37] ?_
 have hoc : oc n = 1 := by rcases h with rfl | rfl <;> decide +kernel
 refine zz [0,1,24,2,0,0,1,3,38,20] ?_
 refine TL.known 5 rfl (c := false) (decide_eq_false (by omega)) ?_
 refine zz [32,84,19,20] ?_
 refine TL.known 9 rfl (c := false) (decide_eq_false (by omega)) ?_
 refine zz [32,240,59] ?_
 refine cl (oc_ok n (by omega)) rfl (picked_nil _) trivial ?_
 intro _ _
 refine zz [98] ?_
 rw [hoc]
 refine zz [92,19,2,10,7,0,1,3,5] ?_
 refine mkP (E := 5) (n := n) (z := .int .u8 0) 1 rfl rfl rfl rfl rfl rfl (by omega) (by simp only [maxLen]; omega) ?_
 intro b1
 first | refine q rfl rfl (bld (cs := [.slice _ _ _]) rfl) ?_ | refine q rfl rfl (bld (cs := [_]) rfl) ?_
 refine e rfl ?_
 refine bx (v := .agg #[_]) (l := [.slice _ _ _]) rfl rfl ?_
 intro b2
 refine zz [24,2,11] ?_
 exact Ret.i b2 [_] ⟨rfl, trivial⟩ rfl trivial (ent_close (⟨b1⟩ : ArRep) (fun _ => (by decide : 0 < 256)) (ent_take 0 rfl (ent_takeE 0 rfl (by rw [by_zero]) (ent_take 0 rfl (ent_nil _)))))
theorem arpart_ok (b mb n at_ k : Nat) (hn : n ≤ 131072) (h1 : at_ + k ≤ n) (h2 : at_ < n) : FSpec Tryz.prog 126 [.pointer (some ⟨b, 0, none⟩), .int .i64 (at_ : Int), .int .i64 (k : Int)] noRd [pts b 258 [.slice (some ⟨mb, 0, none⟩) n n]] (fun _ : Unit => .tuple #[.slice (some ⟨mb, at_, none⟩) k (n - at_), .int .i64 0]) (fun _ => True) (fun _ => [pts b 258 [.slice (some ⟨mb, 0, none⟩) n n]]) := by
 refine fI Tryz.func126 Tryz.ntmps126 ?_
 intro F _
 refine zz [39] ?_
 have e1 : (at_ + k) - at_ = k := by omega
 have e2 : 0 + at_ * 1 = at_ := by omega
 refine zz [0,1,35,4,2,0,17,0,1,6,34,9,2,10,0,1,3,38,20] ?_
 refine TL.known 14 rfl (c := false) (decide_eq_false (by omega)) ?_
 refine zz [32,88,19,20] ?_
 refine TL.known 18 rfl (c := false) (decide_eq_false (by omega)) ?_
 refine zz [32,85,112,96,52] ?_
 refine qg rfl rfl rfl (len 5 1 rfl rfl) ?_
 refine zz [84,19,20] ?_
 refine TL.known 27 rfl (c := false) (decide_eq_false (by omega)) ?_
 refine zz [32,85,112,96,52] ?_
 refine qg rfl rfl rfl (len 5 1 rfl rfl) ?_
 refine zz [32] ?_
 first | refine qg rfl rfl rfl (subI rfl rfl (by omega) (by omega)) ?_ | refine qg rfl rfl rfl (sub rfl rfl rfl) ?_
 refine zz [84,19,9,2] ?_
 refine TC.condD rfl (fun hc1 => absurd hc1 (by omega)) (fun hc1 => ?_)
 refine zz [42,0,1,6,13,14,12,3,3,3] ?_
 refine q rfl rfl (OQ.to (v := ((at_ + k : Nat) : Int)) (addI rfl rfl (by omega) (by omega)) (by omega)) ?_
 refine q rfl rfl (slP (i := at_) (j := at_ + k) 5 1 rfl rfl rfl rfl (by omega) (by omega) (by omega)) ?_
 refine zz [35,4,2,11] ?_
 exact Ret.i () [.slice (some ⟨mb, 0 + at_ * 1, none⟩) (at_ + k - at_) (n - at_), .int .i64 0] ⟨rfl, rfl, trivial⟩ (by rw [e1, e2]; rfl) trivial (ent_take 0 rfl (ent_take 0 rfl (ent_nil _)))
theorem arwords_ok (b mb n at_ k : Nat) (hn : n ≤ 131072) (h1 : at_ + k * 8 ≤ n) (h2 : at_ < n) (h3 : at_ % 8 = 0) : FSpec Tryz.prog 129 [.pointer (some ⟨b, 0, none⟩), .int .i64 (at_ : Int), .int .i64 (k : Int)] noRd [pts b 258 [.slice (some ⟨mb, 0, none⟩) n n]] (fun _ : Unit => .tuple #[.slice (some ⟨mb, at_, none⟩) (k * 8) (n - at_), .int .i64 0]) (fun _ => True) (fun _ => [pts b 258 [.slice (some ⟨mb, 0, none⟩) n n]]) := by
 refine fI Tryz.func129 Tryz.ntmps129 ?_
 intro F _
 refine zz [39,0,1,35,4,2,0,1,6,3,3] ?_
 refine q rfl rfl (OQ.to (v := ((k * 8 : Nat) : Int)) (mulI rfl rfl (by omega) (by omega)) (by omega)) ?_
 refine e rfl ?_
 refine cl (arpart_ok b mb n at_ (k * 8) hn h1 h2) rfl PkL.p trivial ?_
 intro _ _
 refine zz [66,26,162,15,35,4,2,0,0,1,3,30,20] ?_
 refine TL.known 20 rfl (c := true) (decide_eq_true (by omega)) ?_
 refine zz [32,209,92,19,2] ?_
 refine TC.condD rfl (fun hc2 => absurd hc2 (by omega)) (fun hc2 => ?_)
 refine zz [7,0,1,29,3,35,4,2,11] ?_
 exact Ret.i () [_, _] ⟨rfl, rfl, trivial⟩ rfl trivial (ent_take 0 rfl (ent_take 0 rfl (ent_nil _)))
theorem arload_ok (b n at_ : Nat) (m : Nat → Nat) (hn : n ≤ 131072) (h1 : at_ + 8 ≤ n) (h3 : at_ % 8 = 0) : FSpec Tryz.prog 127 [.pointer (some ⟨b, 0, none⟩), .int .i64 (at_ : Int)] noRd [isAr b m n] (fun _ : Unit => .tuple #[.int .u64 (ldW m at_ : Int), .int .i64 0]) (fun _ => True) (fun _ => [isAr b m n]) := by
 refine fI Tryz.func127 Tryz.ntmps127 ?_
 intro F _
 refine zz [39] ?_
 refine TC.open 0 rfl (fun x0 hx0 => ?_)
 obtain ⟨mb⟩ := x0
 have hm := hx0
 refine zz [44] ?_
 dsimp only at hm ⊢
 refine zz [0,1,4,4,2,0,1,6,3,5] ?_
 refine cl (arwords_ok b mb n at_ 1 hn (by omega) (by omega) h3) rfl PkL.p trivial ?_
 intro _ _
 refine zz [43,26,162,15,35,4,2,0,1,4,2,0,0,1,29,172,3,2,17] ?_
 refine TC.loop (ι := Nat) (fun k => k ≤ 8) (fun k => [(7, .int .i64 0), (8, .int .u64 (ldB m at_ k : Int)), (17, .slice (some ⟨mb, at_, none⟩) (1 * 8) (n - at_)), (18, .int .i64 8), (19, .int .i64 ((k : Nat) : Int))]) (fun k => sepL [pts b 258 [.slice (some ⟨mb, 0, none⟩) n n], pts mb 5 (byC m n), F]) (fun k => 8 - k) 0 (by omega) ⟨rfl, rfl, rfl, rfl, rfl, trivial⟩ (ent_take 0 rfl (ent_take 0 rfl (ent_take 0 rfl (ent_nil _)))) ?_
 rintro k hk ρ0
 dsimp only [updL] at hk ⊢
 refine zz [0,1,38,2,0] ?_
 first | refine TC.condD rfl (fun hlt => ?_) (fun hlt => ?_) | refine TC.cond rfl (fun hlt => ?_) (fun hlt => ?_)
 ·have hlt2 : k < 8 := by omega
  have hst := ld_step hm at_ hlt2
  have hb1 := hm (at_ + k)
  have hbl := Nat.lt_of_lt_of_le (ldB_lt hm at_ k) (Nat.pow_le_pow_right (n := 2) (by decide) (show 8 * k ≤ 64 by omega))
  have hin : at_ + k < n := by omega
  refine zz [7,0,17,0,1,3] ?_
  refine q rfl rfl (ix (o := at_ + k * 1) 5 1 rfl rfl rfl (by omega) (by omega) (by rw [Int.toNat_natCast])) ?_
  refine q rfl rfl (ld rfl rfl (by_at m hin)) ?_
  refine zz [4,4,2,1,3,3] ?_
  refine q rfl rfl (conv .u8 .u64 rfl rfl rfl (wU (by omega))) ?_
  refine zz [3] ?_
  refine q rfl rfl (OQ.to (v := ((8 * k : Nat) : Int)) (mulI rfl rfl (by omega) (by omega)) (by omega)) ?_
  refine q rfl rfl (shlU rfl rfl (by omega) rfl) ?_
  refine q rfl rfl (orU rfl rfl hbl (Nat.mod_lt _ (by decide)) hst) ?_
  refine zz [4,63,1,36,3,2] ?_
  exact ⟨rfl, (k + 1), (by omega), (by omega), ⟨rfl, rfl, rfl, rfl, rfl, trivial⟩, entS⟩
 ·obtain rfl : k = 8 := by omega
  refine zz [50,0,1,3,3,4,4,2,11] ?_
  exact Ret.i () [_, _] ⟨rfl, rfl, trivial⟩ rfl trivial (ent_close (⟨mb⟩ : ArRep) hm entS)
theorem arstore_ok (b n at_ : Nat) (m : Nat → Nat) (L : List Nat) (ax : Option Addr) (cx : Nat) (hn : n ≤ 131072) (h0 : 0 < L.length) (h1 : at_ + L.length * 8 ≤ n) (h3 : at_ % 8 = 0) (hL : ∀ x ∈ L, x < 2 ^ 64) : FSpec Tryz.prog 85 [.pointer (some ⟨b, 0, none⟩), .int .i64 (at_ : Int), .slice ax L.length cx] (fun F => ∃ E, RdS F E ax (nums .u64 (L.map (fun x : Nat => (x : Int))))) [isAr b m n] (fun _ : Unit => .int .i64 0) (fun _ => True) (fun _ => [isAr b (stWs m at_ L) n]) := by
 refine fI Tryz.func85 Tryz.ntmps85 ?_
 intro F ⟨E, hF⟩
 refine zz [39] ?_
 haveI : RdSI F ax E (nums .u64 (L.map (fun x : Nat => (x : Int)))) := ⟨hF⟩
 refine TC.open 0 rfl (fun x0 hx0 => ?_)
 obtain ⟨mb⟩ := x0
 have hm := hx0
 refine zz [44] ?_
 dsimp only at hm ⊢
 refine zz [0,1,4,2,0,1,6,3,29,147,5] ?_
 refine cl (arwords_ok b mb n at_ L.length hn h1 (by omega) h3) rfl PkL.p trivial ?_
 intro _ _
 refine zz [43,26,162,15,35,4,2,0,0,1,29,172,3,2,17] ?_
 refine TC.loop (ι := Nat) (fun k => k ≤ L.length * 8) (fun k => [(2, .slice ax L.length cx), (7, .slice (some ⟨mb, at_, none⟩) (L.length * 8) (n - at_)), (8, .int .i64 0), (19, .int .i64 ((L.length * 8 : Nat) : Int)), (20, .int .i64 ((k : Nat) : Int))]) (fun k => sepL [pts b 258 [.slice (some ⟨mb, 0, none⟩) n n], pts mb 5 (byC (stL m at_ L k) n), F]) (fun k => L.length * 8 - k) 0 (by omega) ⟨rfl, rfl, rfl, rfl, rfl, trivial⟩ (by rw [stL_zero]; exact (ent_take 0 rfl (ent_take 0 rfl (ent_take 0 rfl (ent_nil _))))) ?_
 rintro k hk ρ0
 dsimp only [updL] at hk ⊢
 refine zz [0,1,38,2,0] ?_
 first | refine TC.condD rfl (fun hlt => ?_) (fun hlt => ?_) | refine TC.cond rfl (fun hlt => ?_) (fun hlt => ?_)
 ·have hlt2 : k < L.length * 8 := by omega
  have hq : k / 8 < L.length := by omega
  obtain ⟨x, hx⟩ : ∃ x, L[k / 8]? = some x := ⟨L[k / 8], List.getElem?_eq_getElem hq⟩
  have hx2 : (L.map (fun x : Nat => (x : Int)))[k / 8]? = some (x : Int) := by rw [List.getElem?_map, hx]; rfl
  have hxl := hL x (List.mem_of_getElem? hx)
  have hpos : 0 < (nums .u64 (L.map (fun x : Nat => (x : Int)))).length := by rw [nums_length, List.length_map]; omega
  have hin : at_ + k < n := by omega
  have hsn : splice (at_ + k) [.int .u8 ((x / 2 ^ (8 * (k % 8)) % 256 : Nat) : Int)] (byC (stL m at_ L k) n) = byC (stL m at_ L (k + 1)) n := by
   rw [byC_set _ hin, stL_snoc, List.getD_eq_getElem?_getD, hx]; rfl
  have hlb := byC_length (stL m at_ L k) n
  refine zz [7,0,17,0,1,3,4,2,1,29,3,29,3] ?_
  refine q rfl rfl (OQ.to (v := ((k / 8 : Nat) : Int)) (quoI rfl rfl (by omega) (by omega) (by omega)) (by omega)) ?_
  refine zz [186] ?_
  first | refine q rfl rfl (ld rfl rfl rfl) ?_ | refine q rfl rfl (ldS rfl rfl (nums_get hx2)) ?_ | refine q rfl rfl (ldS rfl rfl rfl) ?_
  refine zz [3] ?_
  refine q rfl rfl (OQ.to (v := ((k % 8 : Nat) : Int)) (remI rfl rfl (by omega) (by omega)) (by omega)) ?_
  refine q rfl rfl (OQ.to (v := ((8 * (k % 8) : Nat) : Int)) (mulI rfl rfl (by omega) (by omega)) (by omega)) ?_
  refine q rfl rfl (shrU rfl rfl hxl rfl) ?_
  refine q rfl rfl (conv .u64 .u8 rfl rfl rfl (w8 _)) ?_
  refine q rfl rfl (ix (o := at_ + k) 5 1 rfl rfl rfl (by omega) (by omega) (by rw [Int.toNat_natCast]; omega)) ?_
  refine e0 ?_
  first | refine st (v := .int _ _) (vs := [_]) 1 rfl rfl rfl rfl rfl rfl (Nat.le_of_ble_eq_true rfl) rfl ?_ | refine st (v := .int _ _) (vs := [_]) 1 rfl rfl rfl rfl rfl rfl (by omega) hsn ?_
  refine zz [63,1,36,3,2] ?_
  exact ⟨rfl, (k + 1), (by omega), (by omega), ⟨rfl, rfl, rfl, rfl, rfl, trivial⟩, entS⟩
 ·obtain rfl : k = L.length * 8 := by omega
  have he : stL m at_ L (L.length * 8) = stWs m at_ L := by rw [stWs, Nat.mul_comm]
  rw [he]
  have hm2 : byteOK (stWs m at_ L) := stL_ok hm at_ L _
  refine zz [50,0,1,3,4,2,11] ?_
  exact Ret.i () [_] ⟨rfl, trivial⟩ rfl trivial (ent_close (⟨mb⟩ : ArRep) hm2 entS)
theorem byclone_ok (ax : Option Addr) (k cx : Nat) (cs : List Value) (hk : cs.length = k) (h0 : 0 < k) (hk2 : k ≤ 1000000) (h1 : cs.all Value.oneCell' = true) (ha : ax ≠ none) : FSpec Tryz.prog 336 [.slice ax k cx] (fun F => ∃ E, RdS F E ax cs) [] (fun y : Option Addr × Nat => .slice y.1 k y.2) (fun _ => True) (fun _ => []) := by
 refine fI Tryz.func336 Tryz.ntmps336 ?_
 intro F ⟨E, hF⟩
 refine zz [37] ?_
 obtain ⟨p0, rfl⟩ : ∃ p0, ax = some p0 := by cases ax with | none => exact absurd rfl ha | some p0 => exact ⟨p0, rfl⟩
 haveI : RdSI F (some p0) E cs := ⟨hF⟩
 refine zz [0,1,35,2,0,0,1,29] ?_
 refine q rfl rfl (eqSl rfl rfl rfl) ?_
 refine zz [2,10,7,0,1,5] ?_
 refine bs (cs := []) rfl ?_
 intro b3
 refine zz [29,5] ?_
 refine ap 1 rfl rfl rfl rfl rfl (by omega) (show cs.take (k * 1) = cs from List.take_of_length_le (by omega)) h1 (by omega) (by simp only [maxLen]; omega) ?_
 intro ad1 cap1
 refine zz [35,2,11] ?_
 exact Ret.i (ad1, cap1) [_] ⟨rfl, trivial⟩ (by dsimp only; rw [Nat.zero_add]; rfl) trivial entS
theorem arread_ok (b n at_ k : Nat) (m : Nat → Nat) (hn : n ≤ 131072) (h0 : 0 < k) (h1 : at_ + k ≤ n) : FSpec Tryz.prog 321 [.pointer (some ⟨b, 0, none⟩), .int .i64 (at_ : Int), .int .i64 (k : Int)] noRd [isAr b m n] (fun y : Option Addr × Nat => .tuple #[.slice y.1 k y.2, .int .i64 0]) (fun _ => True) (fun _ => [isAr b m n]) := by
 refine fI Tryz.func321 Tryz.ntmps321 ?_
 intro F _
 refine zz [39] ?_
 refine TC.open 0 rfl (fun x0 hx0 => ?_)
 obtain ⟨mb⟩ := x0
 have hm := hx0
 refine zz [44] ?_
 dsimp only at hm ⊢
 refine zz [0,1,35,4,2,0,1,6,3,3,5] ?_
 refine cl (arpart_ok b mb n at_ k hn h1 (by omega)) rfl PkL.p trivial ?_
 intro _ _
 refine zz [43,26,162,15,35,4,2,0,1,29] ?_
 have hlb := byC_length m n
 have hol := byC_one m n
 refine e rfl ?_
 refine cl (byclone_ok (some ⟨mb, at_, none⟩) k (n - at_) (((byC m n).drop at_).take k) (by rw [List.length_take, List.length_drop]; omega) h0 (by omega) (by rw [List.all_eq_true] at hol ⊢; exact fun v hv => hol v (List.mem_of_mem_drop (List.mem_of_mem_take hv))) (fun h => by cases h)) rfl (picked_nil _) ⟨_, RdS_ent (ent_one 1 rfl) (RdS_mid mb 5 at_ k _)⟩ ?_
 intro y _
 refine zz [43,3,35,4,2,11] ?_
 exact Ret.i y [_, _] ⟨rfl, rfl, trivial⟩ rfl trivial (ent_close (⟨mb⟩ : ArRep) hm entS)
theorem arfill_ok (b n at_ k : Nat) (m : Nat → Nat) (hn : n ≤ 131072) (h1 : at_ + k ≤ n) (h2 : at_ < n) : FSpec Tryz.prog 76 [.pointer (some ⟨b, 0, none⟩), .int .i64 (at_ : Int), .int .i64 (k : Int), .int .u8 0] noRd [isAr b m n] (fun _ : Unit => .int .i64 0) (fun _ => True) (fun _ => [isAr b (zB m at_ k) n]) := by
 refine fI Tryz.func76 Tryz.ntmps76 ?_
 intro F _
 refine zz [39] ?_
 refine TC.open 0 rfl (fun x0 hx0 => ?_)
 obtain ⟨mb⟩ := x0
 have hm := hx0
 refine zz [44] ?_
 dsimp only at hm ⊢
 refine zz [0,1,4,2,0,1,6,3,3,5] ?_
 refine cl (arpart_ok b mb n at_ k hn h1 h2) rfl PkL.p trivial ?_
 intro _ _
 refine zz [43,26,162,15,35,4,2,0,0,1,29,172,3,2,17] ?_
 refine TC.loop (ι := Nat) (fun j => j ≤ k) (fun j => [(3, .int .u8 0), (9, .slice (some ⟨mb, at_, none⟩) k (n - at_)), (10, .int .i64 0), (20, .int .i64 (k : Int)), (21, .int .i64 ((j : Nat) : Int))]) (fun j => sepL [pts b 258 [.slice (some ⟨mb, 0, none⟩) n n], pts mb 5 (byC (zB m at_ j) n), F]) (fun j => k - j) 0 (by omega) ⟨rfl, rfl, rfl, rfl, rfl, trivial⟩ (by rw [zB_zero]; exact (ent_take 0 rfl (ent_take 0 rfl (ent_take 0 rfl (ent_nil _))))) ?_
 rintro j hj ρ0
 dsimp only [updL] at hj ⊢
 refine zz [0,1,38,2,0] ?_
 first | refine TC.condD rfl (fun hlt => ?_) (fun hlt => ?_) | refine TC.cond rfl (fun hlt => ?_) (fun hlt => ?_)
 ·have hin : at_ + j < n := by omega
  have hlb := byC_length (zB m at_ j) n
  have hsn : splice (at_ + j) [.int .u8 0] (byC (zB m at_ j) n) = byC (zB m at_ (j + 1)) n := by
   have := byC_set (zB m at_ j) hin 0
   rw [zB_snoc]; exact this
  refine zz [7,0,17,0,1,3,4,2,1,29,3,3] ?_
  refine q rfl rfl (ix (o := at_ + j) 5 1 rfl rfl rfl (by omega) (by omega) (by rw [Int.toNat_natCast]; omega)) ?_
  refine e0 ?_
  first | refine st (v := .int _ _) (vs := [_]) 1 rfl rfl rfl rfl rfl rfl (Nat.le_of_ble_eq_true rfl) rfl ?_ | refine st (v := .int _ _) (vs := [_]) 1 rfl rfl rfl rfl rfl rfl (by omega) hsn ?_
  refine zz [63,1,36,3,2] ?_
  exact ⟨rfl, (j + 1), (by omega), (by omega), ⟨rfl, rfl, rfl, rfl, rfl, trivial⟩, entS⟩
 ·obtain rfl : j = k := by omega
  have hm2 : byteOK (zB m at_ j) := zB_ok hm at_ j
  refine zz [50,0,1,3,4,2,11] ?_
  exact Ret.i () [_] ⟨rfl, trivial⟩ rfl trivial (ent_close (⟨mb⟩ : ArRep) hm2 entS)
def uF (U : List Nat) (x : Int) : Option Value := if U.any (fun p => decide (x = (p : Int) * 1024)) = true then some (.int .i64 0) else none
theorem uF_yes {U : List Nat} {p : Nat} (h : p ∈ U) : uF U ((p : Int) * 1024) = some (.int .i64 0) := if_pos (List.any_eq_true.2 ⟨p, h, decide_eq_true rfl⟩)
theorem uF_no {U : List Nat} {p : Nat} (h : p ∉ U) : uF U ((p : Int) * 1024) = none := if_neg fun h2 => by
 obtain ⟨q, hq, e⟩ := List.any_eq_true.1 h2
 have := of_decide_eq_true e
 exact h (by rwa [show p = q by omega])
theorem uF_add (U : List Nat) (p : Nat) : updF (uF U) ((p : Int) * 1024) (.int .i64 0) = uF (p :: U) := by
 funext x
 rw [updF, uF, uF, List.any_cons]
 by_cases e : x = (p : Int) * 1024
 ·rw [if_pos e, decide_eq_true e, Bool.true_or, if_pos rfl]
 ·rw [if_neg e, decide_eq_false e, Bool.false_or]
theorem uF_del {U : List Nat} (h : U.Nodup) (p : Nat) : delF (uF U) ((p : Int) * 1024) = uF (U.erase p) := by
 funext x
 rw [delF, uF, uF]
 by_cases e : x = (p : Int) * 1024
 ·rw [if_pos e]
  subst e
  exact (uF_no (U := U.erase p) fun h2 => ((List.Nodup.mem_erase_iff h).1 h2).1 rfl).symm
 ·rw [if_neg e]
  have : U.any (fun p => decide (x = (p : Int) * 1024)) = (U.erase p).any (fun p => decide (x = (p : Int) * 1024)) := by
   rw [Bool.eq_iff_iff, List.any_eq_true, List.any_eq_true]
   constructor
   ·rintro ⟨q, h1, h2⟩
    exact ⟨q, (List.mem_erase_of_ne (fun e2 => e (by rw [of_decide_eq_true h2, e2]))).2 h1, h2⟩
   ·rintro ⟨q, h1, h2⟩
    exact ⟨q, List.mem_of_mem_erase h1, h2⟩
  rw [this]
def bdC (j top : Nat) (B : Nat → Nat) (mb : Nat) : List Value := .int .i64 (top : Int) :: ((List.range 21).map (fun k => if k < j then .pointer (some ⟨(B k), 0, none⟩) else .pointer none) ++ [.map (some mb)])
theorem bd_get {j top : Nat} {B : Nat → Nat} {mb k : Nat} (h : k < j) (h2 : k < 21) : (bdC j top B mb)[0 + 1 + ((k : Nat) : Int).toNat * 1]? = some (.pointer (some ⟨(B k), 0, none⟩)) := by
 rw [Int.toNat_natCast, Nat.mul_one, Nat.zero_add, Nat.add_comm, bdC, List.getElem?_cons_succ, List.getElem?_append_left (by simp; omega), List.getElem?_map, List.getElem?_range h2, Option.map_some, if_pos h]
theorem bd_len (j top : Nat) (B : Nat → Nat) (mb : Nat) : (bdC j top B mb).length = 23 := by simp [bdC]
theorem bd_set {j top : Nat} (B : Nat → Nat) (mb x : Nat) (h : j < 21) : splice (0 + 1 + ((j : Nat) : Int).toNat * 1) [.pointer (some ⟨x, 0, none⟩)] (bdC j top B mb) = bdC (j + 1) top (fun k => if k = j then x else B k) mb := by
 have e : splice (0 + 1 + ((j : Nat) : Int).toNat * 1) [.pointer (some ⟨x, 0, none⟩)] (bdC j top B mb) = (bdC j top B mb).set (1 + j) (.pointer (some ⟨x, 0, none⟩)) := by
  rw [List.set_eq_take_append_cons_drop, if_pos (by rw [bd_len]; omega), Int.toNat_natCast, Nat.mul_one, Nat.zero_add]
  simp [splice]
 rw [e]
 apply List.ext_getElem?
 intro i
 rw [List.getElem?_set, bd_len]
 cases i with
 | zero => rw [if_neg (by omega)]; rfl
 | succ i =>
  by_cases hi : i < 21
  ·have h1 : ∀ j B, (bdC j top B mb)[i + 1]? = some (if i < j then .pointer (some ⟨(B i), 0, none⟩) else .pointer none) := fun j B => by
    rw [bdC, List.getElem?_cons_succ, List.getElem?_append_left (by simp; omega), List.getElem?_map, List.getElem?_range hi, Option.map_some]
   rw [h1, h1]
   by_cases e2 : i = j
   ·subst e2; rw [if_pos (by omega), if_pos (by omega), if_pos (by omega), if_pos rfl]
   ·rw [if_neg (by omega)]
    by_cases e3 : i < j
    ·rw [if_pos e3, if_pos (by omega), if_neg e2]
    ·rw [if_neg e3, if_neg (by omega)]
  ·rw [if_neg (by omega)]
   have h1 : ∀ j B, (bdC j top B mb)[i + 1]? = [Value.map (some mb)][i - 21]? := fun j B => by
    rw [bdC, List.getElem?_cons_succ, List.getElem?_append_right (by simp; omega)]; simp
   rw [h1, h1]
structure BdRep where
  f : FB
  B : Nat → Nat
  mb : Nat
def isBd (b top : Nat) (U : List Nat) : HP := EX fun y : BdRep => pure' (top ≤ 20 ∧ BInv y.f top U) (sepL [pts b 254 (bdC (top + 1) top y.B y.mb), bigS (fun k => isBm (y.B k) (2 ^ (top - k)) (y.f k)) (List.range (top + 1)), mapF QM.encI y.mb (uF U) U.length])
theorem setB_at (f : FB) (k i : Nat) (v : Bool) : setB f k i v k = setF (f k) i v := by
 funext x; rw [setB, setF]
 by_cases h : x = i
 ·rw [if_pos ⟨rfl, h⟩, if_pos h]
 ·rw [if_neg (fun h2 => h h2.2), if_neg h]
theorem setB_ne (f : FB) {k x : Nat} (i : Nat) (v : Bool) (h : x ≠ k) : setB f k i v x = f x := by
 funext y; rw [setB, if_neg (fun h2 => h h2.1)]
theorem range_open {k n : Nat} (h : k < n) : ∃ L, (List.range n).Perm (k :: L) ∧ ∀ x ∈ L, x ≠ k := by
 obtain ⟨L, hL⟩ := perm_mem (List.mem_range.2 h)
 exact ⟨L, hL, fun x hx e => (List.nodup_cons.1 (hL.nodup_iff.1 List.nodup_range)).1 (e ▸ hx)⟩
theorem pow_top {top k : Nat} (h : top ≤ 20) : 2 ^ (top - k) ≤ 1048576 := Nat.pow_le_pow_right (n := 2) (by decide) (show top - k ≤ 20 by omega)
theorem f0B_at (top : Nat) : f0B top top = setF (fun _ => false) 0 true := by
 funext x; rw [f0B, setF]
 by_cases h : x = 0
 ·rw [if_pos h, decide_eq_true ⟨rfl, h⟩]
 ·rw [if_neg h, decide_eq_false fun h2 => h h2.2]
theorem f0B_ne {top k : Nat} (h : k ≠ top) : f0B top k = fun _ => false := by
 funext x; exact decide_eq_false fun h2 => h h2.1
theorem binv_perm {f : FB} {top : Nat} {U V : List Nat} (h : BInv f top U) (p : U.Perm V) : BInv f top V :=
 ⟨h.bd, fun q hq => by rw [h.cv q hq]; simp only [p.mem_iff], p.nodup_iff.1 h.nd, fun q hq => h.lt q (p.mem_iff.2 hq)⟩
theorem uF_perm {U V : List Nat} (p : U.Perm V) : uF U = uF V := by
 funext x; rw [uF, uF, show U.any (fun p => decide (x = (p : Int) * 1024)) = V.any (fun p => decide (x = (p : Int) * 1024)) from p.any_eq]
theorem bd_perm (b top : Nat) {U V : List Nat} (p : U.Perm V) : ent (isBd b top U) (isBd b top V) := ent_of_imp fun h ⟨y, ⟨h1, h2⟩, h3⟩ => ⟨y, ⟨h1, binv_perm h2 p⟩, by rw [← uF_perm p, ← p.length_eq]; exact h3⟩
theorem bdnew_ok (n top : Nat) (h : n = 65536 ∧ top = 6 ∨ n = 131072 ∧ top = 7) : FSpec Tryz.prog 69 [.int .i64 (n : Int)] GV [] (fun b : Nat => .pointer (some ⟨b, 0, none⟩)) (fun _ => True) (fun b => [isBd b top []]) := by
 refine fI Tryz.func69 Tryz.ntmps69 ?_
 intro F hF
 refine zz [37] ?_
 haveI : GVI F := ⟨hF⟩
 have hoc : oc n = 1 := by rcases h with ⟨rfl, _⟩ | ⟨rfl, _⟩ <;> decide +kernel
 have hcz : Lib.ctz 64 (n / 1024) = top := by rcases h with ⟨rfl, rfl⟩ | ⟨rfl, rfl⟩ <;> decide +kernel
 have hn : 65536 ≤ n ∧ n ≤ 131072 ∧ top ≤ 7 := by omega
 clear h
 refine zz [0,1,24,2,0,0,1,3,38,20] ?_
 refine TL.known 7 rfl (c := false) (decide_eq_false (by omega)) ?_
 refine zz [32,84,19,20] ?_
 refine TL.known 11 rfl (c := false) (decide_eq_false (by omega)) ?_
 refine zz [32,240,59] ?_
 refine cl (oc_ok n (by omega)) rfl (picked_nil _) trivial ?_
 intro _ _
 refine zz [98] ?_
 rw [hoc]
 refine zz [92,19,2,10,7,0,1,3] ?_
 refine q rfl rfl (OQ.to (v := ((n / 1024 : Nat) : Int)) (quoI rfl rfl (by omega) (by omega) (by omega)) (by omega)) ?_
 refine zz [131,5] ?_
 refine cl (tz_ok (n / 1024) (by omega)) rfl (picked_nil _) GVI.gv ?_
 intro _ _
 refine zz [98] ?_
 rw [hcz]
 refine e rfl ?_
 refine mkF QM.encI ?_
 intro b1
 first | refine q rfl rfl (bld (cs := bdC 0 top (fun _ => 0) _) rfl) ?_ | refine q rfl rfl (bld (cs := [_, _, _, _, _, _, _, _, _, _, _, _, _, _, _, _, _, _, _, _, _, _, _]) rfl) ?_
 refine e rfl ?_
 refine bx (v := .agg (List.toArray (bdC 0 top (fun _ => 0) _))) (l := bdC 0 top (fun _ => 0) _) rfl rfl ?_
 intro b2
 refine zz [24,2,0,0,1,6,13,14,12,36,3,2,17] ?_
 refine TC.loop (ι := Nat × (Nat → Nat)) (fun x => x.1 ≤ top + 1) (fun x => [(3, .pointer (some ⟨b2, 0, none⟩)), (28, .int .i64 ((top + 1 : Nat) : Int)), (29, .int .i64 ((x.1 : Nat) : Int))]) (fun x => sepL [pts b2 254 (bdC x.1 top x.2 b1), bigS (fun k => isBm (x.2 k) (2 ^ (top - k)) (fun _ => false)) (List.range x.1), mapF QM.encI b1 (fun _ => none) 0, F]) (fun x => top + 1 - x.1) (0, fun _ => 0) (Nat.zero_le _) ⟨rfl, rfl, rfl, trivial⟩ ((bigS_nil (f := fun k => isBm 0 (2 ^ (top - k)) (fun _ => false)) _).trans (ent_take 1 rfl (ent_take 0 rfl (ent_take 0 rfl (ent_take 0 rfl (ent_nil _)))))) ?_
 rintro ⟨j, B⟩ hj ρ0
 dsimp only [updL] at hj ⊢
 refine zz [0,1,38,2,0] ?_
 first | refine TC.condD rfl (fun hlt => ?_) (fun hlt => ?_) | refine TC.cond rfl (fun hlt => ?_) (fun hlt => ?_)
 ·have hjt : j ≤ top := by omega
  have hpt := pow_top (k := j) (show top ≤ 20 by omega)
  have hlt2 : ((2 ^ (top - j) : Nat) : Int) = ((2 ^ (top - j) : Nat) : Int) := rfl
  refine zz [7,0,17,0,1,3,4,2] ?_
  refine TC.draw _ [13] [(0, false), (1, false), (2, false), (3, false), (4, false), (5, false), (6, false), (7, false), (8, false), (10, false), (11, false), (9, true), (12, false), (13, true)] (by kernel_rfl) (by kernel_rfl) (ent_take 0 rfl (ent_nil _)) ?_
  refine zz [28,33,28,31,25,18,33] ?_
  refine dq rfl rfl rfl (OQ.to (v := ((top - j : Nat) : Int)) (subI rfl rfl (by omega) (by omega)) (by omega)) ?_
  refine dq rfl rfl rfl (shlI (a := 1) (c := 2 ^ (top - j)) rfl rfl (by omega) (Nat.one_mul _) (by omega)) ?_
  refine zz [31,60,16] ?_
  refine cl (bmnew_ok (2 ^ (top - j)) hpt) rfl (picked_nil _) trivial ?_
  intro b9 _
  refine zz [65,8] ?_
  have hst := bd_set (top := top) B b1 b9 (show j < 21 by omega)
  have hbl := bd_len j top B b1
  refine zz [241,70] ?_
  first | refine st (v := .pointer _) (vs := [_]) 1 rfl rfl rfl rfl rfl rfl (Nat.le_of_ble_eq_true rfl) rfl ?_ | refine st (v := .pointer _) (vs := [_]) 1 rfl rfl rfl rfl rfl rfl (by omega) hst ?_
  refine zz [163,1,36,3,2] ?_
  exact ⟨rfl, (j + 1, fun k => if k = j then b9 else B k), (by dsimp only; omega), (by dsimp only; omega), ⟨rfl, rfl, rfl, trivial⟩, (ent_take 0 rfl (ent_closeB 0 0 j rfl rfl (by dsimp only; rw [if_pos rfl]) (fun x hx => by dsimp only; rw [if_neg (fun e => by rw [e] at hx; exact absurd (List.mem_range.1 hx) (Nat.lt_irrefl _))]) (by rw [List.range_succ]; exact (List.perm_append_singleton _ _).symm) (ent_take 0 rfl (ent_take 0 rfl (ent_nil _)))))⟩
 ·obtain rfl : j = top + 1 := by omega
  have hpt := pow_top (k := top) (show top ≤ 20 by omega)
  obtain ⟨L0, hp0, hne0⟩ := range_open (n := top + 1) (k := top) (by omega)
  refine zz [50,0] ?_
  refine TC.draw _ [] [(0, false), (1, false), (2, false), (3, false), (4, false), (5, false), (6, false), (7, false), (8, false), (9, true), (10, true)] (by kernel_rfl) (by kernel_rfl) (ent_take 0 rfl (ent_nil _)) ?_
  refine zz [28,28,31,25] ?_
  first | refine dq rfl rfl rfl (ld rfl rfl rfl) ?_ | refine dq rfl rfl rfl (ld rfl rfl (bd_get (by omega) (by omega))) ?_ | refine dq rfl rfl rfl (ldS rfl rfl rfl) ?_
  refine zz [31,60,241] ?_
  first | refine dq rfl rfl rfl (ld rfl rfl rfl) ?_ | refine dq rfl rfl rfl (ld rfl rfl (bd_get (by omega) (by omega))) ?_ | refine dq rfl rfl rfl (ldS rfl rfl rfl) ?_
  refine zz [16,72] ?_
  intro b3
  refine ⟨entS, ?_⟩
  obtain ⟨L0, hp0, hne0⟩ := range_open (n := top + 1) (k := top) (by omega)
  refine TD.weak (ent_openB 2 rfl hp0) ?_
  refine de rfl rfl ?_
  refine cl (bmset_ok (B top) (2 ^ (top - top)) (fun _ => false) 0 true (some ⟨b3, 0, none⟩) 1 (by simp) hpt) rfl PkL.p ⟨_, RdSI.rd (ad := some ⟨b3, 0, none⟩)⟩ ?_
  intro _ _
  refine zz [99,8,27,0,1,6,24,2,11] ?_
  exact Ret.i b2 [_] ⟨rfl, trivial⟩ rfl trivial (ent_close (⟨f0B top, B, b1⟩ : BdRep) ⟨by omega, BInv.init top⟩ (ent_take 3 rfl (ent_closeB 0 0 top rfl rfl (by dsimp only; rw [f0B_at]) (fun x hx => by dsimp only; rw [f0B_ne (hne0 x hx)]) hp0.symm (ent_take 1 rfl (ent_take 1 rfl (ent_nil _))))))
theorem bdtake_ok (b top : Nat) (U : List Nat) (hU : U.length < 2 ^ top) : FSpec Tryz.prog 81 [.pointer (some ⟨b, 0, none⟩), .int .i64 0] GV [isBd b top U] (fun p : Nat => .tuple #[.int .i64 ((p : Int) * 1024), .int .i64 0]) (fun p => p < 2 ^ top ∧ p ∉ U) (fun p => [isBd b top (p :: U)]) := by
 refine fI Tryz.func81 Tryz.ntmps81 ?_
 intro F hF
 refine zz [39] ?_
 haveI : GVI F := ⟨hF⟩
 refine TC.open 0 rfl (fun x0 hx0 => ?_)
 obtain ⟨f, B, mb⟩ := x0
 obtain ⟨ht, hB⟩ := hx0
 refine zz [77] ?_
 dsimp only at hB ⊢
 refine zz [0,1,4,4,2,0,0,1,6,34,20,32,88,19,20] ?_
 refine TL.known 15 rfl (c := false) (decide_eq_false (by omega)) ?_
 refine zz [32,85,112,96] ?_
 first | refine qg rfl rfl rfl (ld rfl rfl rfl) ?_ | refine qg rfl rfl rfl (ld rfl rfl (bd_get (by omega) (by omega))) ?_ | refine qg rfl rfl rfl (ld rfl rfl (bd_map _ _ _ _)) ?_ | refine qg rfl rfl rfl (ldS rfl rfl rfl) ?_
 refine zz [84,19,2] ?_
 refine TC.condD rfl (fun hc1 => absurd hc1 (by omega)) (fun hc1 => ?_)
 refine zz [7,0,1,3,4,4,2] ?_
 refine TC.cut (ι := Nat × Nat) (fun x => (x.1 ≤ top ∧ f x.1 x.2 = true)) (fun x => [(0, .pointer (some ⟨b, 0, none⟩)), (1, .int .i64 0), (6, .int .i64 ((x.1 : Nat) : Int)), (7, .int .i64 ((x.2 : Nat) : Int))]) (fun x => sepL [pts b 254 (bdC (top + 1) top B mb), bigS (fun k => isBm (B k) (2 ^ (top - k)) (f k)) (List.range (top + 1)), mapF QM.encI mb (uF U) U.length, F]) ?_ ?_
 ·refine TC.block ?_
  refine TC.loop (ι := Nat) (fun k => k ≤ top + 1 ∧ ∀ k2, k2 < k → ∀ i, i < 2 ^ (top - k2) → f k2 i = false) (fun k => [(0, .pointer (some ⟨b, 0, none⟩)), (1, .int .i64 0), (6, .int .i64 ((k : Nat) : Int))]) (fun k => sepL [pts b 254 (bdC (top + 1) top B mb), bigS (fun k => isBm (B k) (2 ^ (top - k)) (f k)) (List.range (top + 1)), mapF QM.encI mb (uF U) U.length, F]) (fun k => top + 1 - k) 0 ⟨Nat.zero_le _, fun k2 h => by omega⟩ ⟨rfl, rfl, rfl, trivial⟩ (ent_take 0 rfl (ent_take 0 rfl (ent_take 0 rfl (ent_take 0 rfl (ent_nil _))))) ?_
  rintro k ⟨hk, hno⟩ ρ0
  dsimp only [updL] at hk hno ⊢
  refine zz [0,0,1,3,6,13,14] ?_
  first | refine q rfl rfl (ld rfl rfl rfl) ?_ | refine q rfl rfl (ld rfl rfl (bd_get (by omega) (by omega))) ?_ | refine q rfl rfl (ld rfl rfl (bd_map _ _ _ _)) ?_ | refine q rfl rfl (ldS rfl rfl rfl) ?_
  refine q rfl rfl (leq rfl rfl) ?_
  refine TL.nil (nt ?_)
  first | refine TC.condD rfl (fun hlt => ?_) (fun hlt => ?_) | refine TC.cond rfl (fun hlt => ?_) (fun hlt => ?_)
  ·have hkt : k ≤ top := by omega
   have hpt := pow_top (k := k) ht
   refine zz [7,0,17,0,1,6,3,13,47,187] ?_
   first | refine q rfl rfl (ld rfl rfl rfl) ?_ | refine q rfl rfl (ld rfl rfl (bd_get (by omega) (by omega))) ?_ | refine q rfl rfl (ld rfl rfl (bd_map _ _ _ _)) ?_ | refine q rfl rfl (ldS rfl rfl rfl) ?_
   obtain ⟨L0, hp0, hne0⟩ := range_open (n := top + 1) (k := k) (by omega)
   refine TL.weak (ent_openB 1 rfl hp0) ?_
   refine e rfl ?_
   refine cl (bmfirst_ok (B k) (2 ^ (top - k)) (f k) true 0 (by omega) hpt) rfl PkL.p GVI.gv ?_
   intro y hy
   refine zz [57] ?_
   cases y with
   | none => ?_
   | some i => ?_
   ·have hy : NoFst (f k) true (2 ^ (top - k)) 0 := hy
    dsimp only [optI]
    refine zz [4,2,0,1,3,111,2,10,42,1,3,36,4,2] ?_
    exact ⟨rfl, (k + 1), ⟨by omega, fun k2 h2 i hi => by
     by_cases e : k2 = k
     ·subst e; have := hy i (Nat.zero_le _) hi; simpa using this
     ·exact hno k2 (by omega) i hi⟩, (by omega), ⟨rfl, rfl, rfl, trivial⟩, (ent_take 2 rfl (ent_closeB 0 0 k rfl rfl rfl (fun _ _ => rfl) hp0.symm (ent_take 0 rfl (ent_take 0 rfl (ent_nil _)))))⟩
   ·have hy : IsFst (f k) true (2 ^ (top - k)) 0 i := hy
    dsimp only [optI]
    refine zz [4,2,0,1,3,111,2] ?_
    refine TC.condD rfl (fun hc2 => ?_) (fun hc2 => absurd (by omega) hc2)
    refine TC.exit (en rfl (et (et (eb (nt ?_)))))
    exact ⟨rfl, (k, i), ⟨hkt, hy.2.2.1⟩, ⟨rfl, rfl, rfl, rfl, trivial⟩, (ent_take 2 rfl (ent_closeB 0 0 k rfl rfl rfl (fun _ _ => rfl) hp0.symm (ent_take 0 rfl (ent_take 0 rfl (ent_nil _)))))⟩
  ·exact absurd (hB.none fun k2 h2 => hno k2 (by omega)) (by omega)
 ·rintro ⟨k, i⟩ ⟨hk, hf⟩ ρ0
  dsimp only [updL] at hk hf ⊢
  obtain ⟨hkt, hit⟩ := hB.bd _ _ hf
  have hpt := pow_top (k := k) ht
  have hH := hB.take hf
  refine zz [0,0,1,3,38,2] ?_
  refine TC.condD rfl (fun hc3 => absurd hc3 (by omega)) (fun hc3 => ?_)
  refine zz [7,0,1,6,3,13,47,187] ?_
  first | refine q rfl rfl (ld rfl rfl rfl) ?_ | refine q rfl rfl (ld rfl rfl (bd_get (by omega) (by omega))) ?_ | refine q rfl rfl (ld rfl rfl (bd_map _ _ _ _)) ?_ | refine q rfl rfl (ldS rfl rfl rfl) ?_
  refine zz [3,5,72] ?_
  intro b4
  obtain ⟨L0, hp0, hne0⟩ := range_open (n := top + 1) (k := k) (by omega)
  refine TL.weak (ent_openB 2 rfl hp0) ?_
  refine e rfl ?_
  refine cl (bmset_ok (B k) (2 ^ (top - k)) (f k) i false (some ⟨b4, 0, none⟩) 1 hit hpt) rfl PkL.p ⟨_, RdSI.rd (ad := some ⟨b4, 0, none⟩)⟩ ?_
  intro _ _
  refine zz [69,2] ?_
  refine TC.cut (ι := FB × Nat) (fun x => BHole x.1 top U 0 x.2) (fun x => [(0, .pointer (some ⟨b, 0, none⟩)), (1, .int .i64 0), (7, .int .i64 ((x.2 : Nat) : Int))]) (fun x => sepL [pts b 254 (bdC (top + 1) top B mb), bigS (fun k => isBm (B k) (2 ^ (top - k)) (x.1 k)) (List.range (top + 1)), mapF QM.encI mb (uF U) U.length, F]) ?_ ?_
  ·refine TC.block ?_
   refine TC.loop (ι := FB × Nat × Nat) (fun x => BHole x.1 top U x.2.1 x.2.2) (fun x => [(0, .pointer (some ⟨b, 0, none⟩)), (1, .int .i64 0), (6, .int .i64 ((x.2.1 : Nat) : Int)), (7, .int .i64 ((x.2.2 : Nat) : Int))]) (fun x => sepL [pts b 254 (bdC (top + 1) top B mb), bigS (fun k => isBm (B k) (2 ^ (top - k)) (x.1 k)) (List.range (top + 1)), mapF QM.encI mb (uF U) U.length, F]) (fun x => x.2.1) (setB f k i false, k, i) hH ⟨rfl, rfl, rfl, rfl, trivial⟩ (ent_take 3 rfl (ent_closeB 0 0 k rfl rfl (by dsimp only; rw [setB_at]) (fun x hx => by dsimp only; rw [setB_ne _ _ _ (hne0 x hx)]) hp0.symm (ent_take 1 rfl (ent_take 1 rfl (ent_nil _))))) ?_
   rintro ⟨f2, k2, i2⟩ hH2 ρ1
   dsimp only [updL] at hH2 ⊢
   refine zz [0,0,1,3,3,107,2] ?_
   first | refine TC.condD rfl (fun hlt => ?_) (fun hlt => ?_) | refine TC.cond rfl (fun hlt => ?_) (fun hlt => ?_)
   ·obtain ⟨k3, rfl⟩ : ∃ k3, k2 = k3 + 1 := ⟨k2 - 1, by omega⟩
    obtain ⟨hz3, hH3⟩ := hH2.split
    have hkt3 := hH2.kt
    have hi3 := hH2.it
    have hpt3 := pow_top (k := k3) ht
    have hhp := half_pow (k := k3) (top := top) (by omega)
    refine zz [7,0,17,0,1,3] ?_
    refine q rfl rfl (OQ.to (v := ((2 * i2 : Nat) : Int)) (mulI rfl rfl (by omega) (by omega)) (by omega)) ?_
    refine zz [4,2,1,6,3] ?_
    refine q rfl rfl (OQ.to (v := ((k3 : Nat) : Int)) (subI rfl rfl (by omega) (by omega)) (by omega)) ?_
    refine zz [13,47,187] ?_
    first | refine q rfl rfl (ld rfl rfl rfl) ?_ | refine q rfl rfl (ld rfl rfl (bd_get (by omega) (by omega))) ?_ | refine q rfl rfl (ld rfl rfl (bd_map _ _ _ _)) ?_ | refine q rfl rfl (ldS rfl rfl rfl) ?_
    refine zz [3] ?_
    refine q rfl rfl (OQ.to (v := ((2 * i2 + 1 : Nat) : Int)) (addI rfl rfl (by omega) (by omega)) (by omega)) ?_
    refine zz [5,72] ?_
    intro b5
    obtain ⟨L0, hp0, hne0⟩ := range_open (n := top + 1) (k := k3) (by omega)
    refine TL.weak (ent_openB 2 rfl hp0) ?_
    refine e rfl ?_
    refine cl (bmset_ok (B k3) (2 ^ (top - k3)) (f2 k3) (2 * i2 + 1) true (some ⟨b5, 0, none⟩) 1 (by omega) hpt3) rfl PkL.p ⟨_, RdSI.rd (ad := some ⟨b5, 0, none⟩)⟩ ?_
    intro _ _
    refine zz [69,63,1,3] ?_
    refine q rfl rfl (OQ.to (v := ((k3 : Nat) : Int)) (subI rfl rfl (by omega) (by omega)) (by omega)) ?_
    refine zz [4,2] ?_
    exact ⟨rfl, (setB f2 k3 (2 * i2 + 1) true, k3, 2 * i2), hH3, (by dsimp only; omega), ⟨rfl, rfl, rfl, rfl, trivial⟩, (ent_take 3 rfl (ent_closeB 0 0 k3 rfl rfl (by dsimp only; rw [setB_at]) (fun x hx => by dsimp only; rw [setB_ne _ _ _ (hne0 x hx)]) hp0.symm (ent_take 1 rfl (ent_take 1 rfl (ent_nil _)))))⟩
   ·obtain rfl : k2 = 0 := by omega
    refine zz [50] ?_
    exact ⟨rfl, (f2, i2), hH2, ⟨rfl, rfl, rfl, trivial⟩, entS⟩
  ·rintro ⟨f2, i2⟩ hH2 ρ1
   dsimp only [updL] at hH2 ⊢
   obtain ⟨hi2, hnu, hB2⟩ := hH2.done
   have hpt := pow_top (k := 0) ht
   rw [Nat.sub_zero] at hpt
   refine zz [0,1,3] ?_
   refine q rfl rfl (OQ.to (v := ((i2 * 1024 : Nat) : Int)) (mulI rfl rfl (by omega) (by omega)) (by omega)) ?_
   refine zz [3] ?_
   refine q rfl rfl (OQ.to (v := (i2 : Int) * 1024) (shlI (a := i2 * 1024) (n := 0) (c := i2 * 1024) rfl rfl (by omega) (by omega) (by omega)) (by omega)) ?_
   refine zz [4,2,0,1,6,13,210] ?_
   first | refine q rfl rfl (ld rfl rfl rfl) ?_ | refine q rfl rfl (ld rfl rfl (bd_get (by omega) (by omega))) ?_ | refine q rfl rfl (ld rfl rfl (bd_map _ _ _ _)) ?_ | refine q rfl rfl (ldS rfl rfl rfl) ?_
   refine zz [3,3,21] ?_
   refine muF (v := .int _ _) 3 3 rfl (KL.int rfl) rfl rfl rfl ?_
   refine zz [2,0,1,3,4,4,2,11] ?_
   exact Ret.i i2 [_, _] ⟨rfl, rfl, trivial⟩ rfl ⟨hi2, hnu⟩ (ent_close (⟨f2, B, mb⟩ : BdRep) ⟨ht, hB2⟩ (ent_take 1 rfl (ent_take 1 rfl (ent_takeE 0 rfl (by dsimp only; rw [uF_no hnu, uF_add]; rfl) (ent_take 0 rfl (ent_nil _))))))
theorem bdgive_ok (b top : Nat) (U : List Nat) (p0 : Nat) (hp0 : p0 ∈ U) : FSpec Tryz.prog 87 [.pointer (some ⟨b, 0, none⟩), .int .i64 ((p0 : Int) * 1024)] noRd [isBd b top U] (fun _ : Unit => .int .i64 0) (fun _ => True) (fun _ => [isBd b top (U.erase p0)]) := by
 refine fI Tryz.func87 Tryz.ntmps87 ?_
 intro F _
 refine zz [39] ?_
 have hm0 := hp0
 clear hp0
 refine TC.open 0 rfl (fun x0 hx0 => ?_)
 obtain ⟨f, B, mb⟩ := x0
 obtain ⟨ht, hB⟩ := hx0
 refine zz [77] ?_
 dsimp only at hB ⊢
 have hlt0 := hB.lt _ hm0
 have hpt0 := pow_top (k := 0) ht
 rw [Nat.sub_zero] at hpt0
 have hH := hB.give hm0
 refine zz [0,1,87,2,0,0,1,71,34,2,10,7,0,1,71,13,210] ?_
 first | refine q rfl rfl (ld rfl rfl rfl) ?_ | refine q rfl rfl (ld rfl rfl (bd_get (by omega) (by omega))) ?_ | refine q rfl rfl (ld rfl rfl (bd_map _ _ _ _)) ?_ | refine q rfl rfl (ldS rfl rfl rfl) ?_
 refine zz [71,208] ?_
 rw [uF_yes hm0]
 refine zz [26,15,80,4,9,2,0,0,1,20,64,2,10,7,0,1,6,13,210] ?_
 first | refine q rfl rfl (ld rfl rfl rfl) ?_ | refine q rfl rfl (ld rfl rfl (bd_get (by omega) (by omega))) ?_ | refine q rfl rfl (ld rfl rfl (bd_map _ _ _ _)) ?_ | refine q rfl rfl (ldS rfl rfl rfl) ?_
 refine zz [3,21] ?_
 refine deF 3 3 rfl (KL.int rfl) rfl rfl rfl ?_
 refine zz [2,0,1,3,3] ?_
 refine q rfl rfl (shlI (a := 1024) (n := 0) (c := 1024) rfl rfl (by omega) rfl (by decide)) ?_
 refine q rfl rfl (OQ.to (v := (p0 : Int)) (quoI rfl rfl (by omega) (by omega) (by omega)) (by omega)) ?_
 refine zz [4,2] ?_
 refine TC.cut (ι := FB × Nat × Nat) (fun x => BHole x.1 top (U.erase p0) x.2.1 x.2.2) (fun x => [(0, .pointer (some ⟨b, 0, none⟩)), (5, .int .i64 ((x.2.1 : Nat) : Int)), (7, .int .i64 ((x.2.2 : Nat) : Int))]) (fun x => sepL [pts b 254 (bdC (top + 1) top B mb), bigS (fun k => isBm (B k) (2 ^ (top - k)) (x.1 k)) (List.range (top + 1)), mapF QM.encI mb (uF (U.erase p0)) (U.erase p0).length, F]) ?_ ?_
 ·refine TC.block ?_
  refine TC.loop (ι := FB × Nat × Nat) (fun x => BHole x.1 top (U.erase p0) x.2.1 x.2.2) (fun x => [(0, .pointer (some ⟨b, 0, none⟩)), (5, .int .i64 ((x.2.1 : Nat) : Int)), (7, .int .i64 ((x.2.2 : Nat) : Int))]) (fun x => sepL [pts b 254 (bdC (top + 1) top B mb), bigS (fun k => isBm (B k) (2 ^ (top - k)) (x.1 k)) (List.range (top + 1)), mapF QM.encI mb (uF (U.erase p0)) (U.erase p0).length, F]) (fun x => top + 1 - x.2.1) (f, 0, p0) hH ⟨rfl, rfl, rfl, trivial⟩ (ent_take 1 rfl (ent_take 1 rfl (ent_takeE 0 rfl (by rw [uF_yes hm0, uF_del hB.nd, List.length_erase_of_mem hm0]; rfl) (ent_take 0 rfl (ent_nil _))))) ?_
  rintro ⟨f2, k2, i2⟩ hH2 ρ1
  dsimp only [updL] at hH2 ⊢
  have hkt := hH2.kt
  have hit := hH2.it
  have hpt := pow_top (k := k2) ht
  refine zz [0,0,1,3,6,13,14] ?_
  first | refine q rfl rfl (ld rfl rfl rfl) ?_ | refine q rfl rfl (ld rfl rfl (bd_get (by omega) (by omega))) ?_ | refine q rfl rfl (ld rfl rfl (bd_map _ _ _ _)) ?_ | refine q rfl rfl (ldS rfl rfl rfl) ?_
  refine zz [38,20] ?_
  refine TL.split 36 rfl (fun hkk => ?_) (fun hkk => ?_)
  ·have hkk := of_decide_eq_true hkk
   have hkl : k2 < top := by omega
   have hhp := half_pow (k := k2) (top := top) hkl
   have hxo := xor1_div i2
   have hxl : i2 ^^^ 1 < 2 ^ (top - k2) := by generalize i2 ^^^ 1 = j at hxo ⊢; omega
   refine zz [85,32,112,97] ?_
   refine qg rfl rfl rfl (ixAl 21 251 1 rfl rfl rfl (by omega) (by omega)) ?_
   first | refine qg rfl rfl rfl (ld rfl rfl rfl) ?_ | refine qg rfl rfl rfl (ld rfl rfl (bd_get (by omega) (by omega))) ?_ | refine qg rfl rfl rfl (ld rfl rfl (bd_map _ _ _ _)) ?_ | refine qg rfl rfl rfl (ldS rfl rfl rfl) ?_
   refine zz [32] ?_
   refine qg rfl rfl rfl (xorI (a := i2) (b := 1) rfl rfl (by omega) (by omega) rfl) ?_
   refine zz [59,72] ?_
   intro b6
   obtain ⟨L0, hp0, hne0⟩ := range_open (n := top + 1) (k := k2) (by omega)
   refine TL.weak (ent_openB 2 rfl hp0) ?_
   refine eg rfl rfl ?_
   refine cl (bmset_ok (B k2) (2 ^ (top - k2)) (f2 k2) (i2 ^^^ 1) false (some ⟨b6, 0, none⟩) 1 hxl hpt) rfl PkL.p ⟨_, RdSI.rd (ad := some ⟨b6, 0, none⟩)⟩ ?_
   intro _ _
   refine zz [69] ?_
   cases hfx : f2 k2 (i2 ^^^ 1) with
   | true => ?_
   | false => ?_
   ·refine zz [74,19,2,40,7,17,1,3] ?_
    refine q rfl rfl (OQ.to (v := ((i2 / 2 : Nat) : Int)) (quoI rfl rfl (by omega) (by omega) (by omega)) (by omega)) ?_
    refine zz [3,36,4,4,63] ?_
    exact ⟨rfl, (setB f2 k2 (i2 ^^^ 1) false, k2 + 1, i2 / 2), (hH2.merge hkl hfx), (by dsimp only; omega), ⟨rfl, rfl, rfl, trivial⟩, (ent_take 3 rfl (ent_closeB 0 0 k2 rfl rfl (by dsimp only; rw [setB_at]) (fun x hx => by dsimp only; rw [setB_ne _ _ _ (hne0 x hx)]) hp0.symm (ent_take 1 rfl (ent_take 1 rfl (ent_nil _)))))⟩
   ·rw [setF_eq hfx]
    refine zz [74,19,2,10,50] ?_
    exact ⟨rfl, (f2, k2, i2), hH2, ⟨rfl, rfl, rfl, trivial⟩, (ent_take 3 rfl (ent_closeB 0 0 k2 rfl rfl rfl (fun _ _ => rfl) hp0.symm (ent_take 1 rfl (ent_take 1 rfl (ent_nil _)))))⟩
  ·have hkk := of_decide_eq_false hkk
   refine zz [22,22,22,22,22,22,22,22,22,22,22,19,2,10,50] ?_
   exact ⟨rfl, (f2, k2, i2), hH2, ⟨rfl, rfl, rfl, trivial⟩, entS⟩
 ·rintro ⟨f2, k2, i2⟩ hH2 ρ1
  dsimp only [updL] at hH2 ⊢
  have hkt := hH2.kt
  have hit := hH2.it
  have hpt := pow_top (k := k2) ht
  obtain ⟨hz2, hB2⟩ := hH2.fill
  refine zz [0,1,6,3,13,47,187] ?_
  first | refine q rfl rfl (ld rfl rfl rfl) ?_ | refine q rfl rfl (ld rfl rfl (bd_get (by omega) (by omega))) ?_ | refine q rfl rfl (ld rfl rfl (bd_map _ _ _ _)) ?_ | refine q rfl rfl (ldS rfl rfl rfl) ?_
  refine zz [3,5,72] ?_
  intro b7
  obtain ⟨L0, hp0, hne0⟩ := range_open (n := top + 1) (k := k2) (by omega)
  refine TL.weak (ent_openB 2 rfl hp0) ?_
  refine e rfl ?_
  refine cl (bmset_ok (B k2) (2 ^ (top - k2)) (f2 k2) i2 true (some ⟨b7, 0, none⟩) 1 hit hpt) rfl PkL.p ⟨_, RdSI.rd (ad := some ⟨b7, 0, none⟩)⟩ ?_
  intro _ _
  refine zz [69,2,0,1,4,2,11] ?_
  exact Ret.i () [_] ⟨rfl, trivial⟩ rfl trivial (ent_close (⟨setB f2 k2 i2 true, B, mb⟩ : BdRep) ⟨ht, hB2⟩ (ent_take 3 rfl (ent_closeB 0 0 k2 rfl rfl (by dsimp only; rw [setB_at]) (fun x hx => by dsimp only; rw [setB_ne _ _ _ (hne0 x hx)]) hp0.symm (ent_take 1 rfl (ent_take 1 rfl (ent_nil _))))))
end Go.Proofs.YtnlgmaibhlicjaaGreatDoor
