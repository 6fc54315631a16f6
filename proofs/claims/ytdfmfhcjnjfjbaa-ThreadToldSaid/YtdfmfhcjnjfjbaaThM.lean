/-
  Proved here: what functions of this program compute, each as a contract over symbolic states, under the premises that each theorem names (most lines printed by a program of the prover).
-/
import Derived.Test.YtdfmfhcjnjfjbaaThL
namespace Go.Proofs.Ytdfmfhcjnjfjbaa
open Go Go.QM
open Al (En hasA Nd clrA setA offA dueA restA leftA)
open Rd (hasS NdS addS RInv topS runS tickS yieldS rndS)
def GI (f : Int → Int) (v : Nat) : Value := .int .i64 (f v)
theorem GI_get (f : Int → Int) {x : Int} (h0 : 0 ≤ x) (h8 : x ≤ 7) : (fl 8 (GI f))[x.toNat]? = some (.int .i64 (f x)) := by
  rw [fl_get _ (by omega), GI, Int.toNat_of_nonneg h0]
theorem GI_set {f g : Int → Int} {x v : Int} (h0 : 0 ≤ x) (h8 : x ≤ 7) (h1 : g x = v) (h2 : ∀ y, y ≠ x → g y = f y) : splice x.toNat [.int .i64 v] (fl 8 (GI f)) = fl 8 (GI g) :=
  fl_set (by omega) (by rw [GI, Int.toNat_of_nonneg h0, h1]) fun u hu => by rw [GI, GI, h2 _ (by omega)]
theorem wW_01 (T : TS) (x : Int) : 0 ≤ wW T x ∧ wW T x ≤ 1 := by rw [wW]; split <;> omega
theorem cT_ge (L : List Tg) (x : Int) : 0 ≤ cT L x := Int.natCast_nonneg _
theorem cT_one (t : Tg) (x : Int) : cT [t] x = if t.th = x then 1 else 0 := by
  rw [cT]
  by_cases h : t.th = x
  · rw [if_pos h, List.filter_cons_of_pos (by simpa using h)]; rfl
  · rw [if_neg h, List.filter_cons_of_neg (by simpa using h)]; rfl
theorem cT_snoc {L : List Tg} {k : Nat} {t : Tg} (h : L[k]? = some t) (x : Int) : cT (L.take (k + 1)) x = cT (L.take k) x + if t.th = x then 1 else 0 := by
  rw [List.take_add_one, h, Option.toList, cT_app, cT_one]
theorem cT_le (L : List Tg) (k : Nat) (x : Int) : cT (L.take k) x ≤ cT L x := by
  have h := cT_app (L.take k) (L.drop k) x
  rw [List.take_append_drop] at h
  have := cT_ge (L.drop k) x; omega
theorem cT_mem {L : List Tg} {t : Tg} (h : t ∈ L) : 1 ≤ cT L t.th := by
  obtain ⟨a, c, rfl⟩ := List.append_of_mem h
  rw [show a ++ t :: c = a ++ ([t] ++ c) from rfl, cT_app, cT_app, cT_one, if_pos rfl]
  have := cT_ge a t.th; have := cT_ge c t.th; omega
/-- What was counted. -/
structure TI (T : TS) (B D O : Int → Int) (i : Nat) : Prop where
  out : ∀ x, ¬ (0 ≤ x ∧ x ≤ 7) → mW T x = 0
  eq : ∀ x, 0 ≤ x → x ≤ 7 → B x = D x + O x + mW T x
  bd : ∀ x, 0 ≤ x → x ≤ 7 → (0 ≤ B x ∧ B x ≤ i) ∧ (0 ≤ O x ∧ O x ≤ i) ∧ 0 ≤ D x
theorem TI.start : TI (bT 8) (fun _ => 0) (fun _ => 0) (fun _ => 0) 0 := ⟨fun x _ => bT_m x, fun x _ _ => by rw [bT_m]; rfl, fun x _ _ => by omega⟩
def bump (f : Int → Int) (y : Int) : Int → Int := fun x => f x + inc x y
theorem TI.play {T T' : TS} {B D O : Int → Int} {i : Nat} (h : TI T B D O i) {b o : Int} (hb : b = -1 ∨ (0 ≤ b ∧ b ≤ 7)) (ho : o = -1 ∨ (0 ≤ o ∧ o ≤ 7)) (hm : ∀ x, mW T' x = mW T x + inc x b - inc x o) : TI T' (bump B b) D (bump O o) (i + 1) := by
  have hi : ∀ x y, 0 ≤ inc x y ∧ inc x y ≤ 1 := fun x y => by rw [inc]; split <;> omega
  refine ⟨fun x hx => ?_, fun x h0 h7 => ?_, fun x h0 h7 => ?_⟩
  · rw [hm, h.out x hx]
    have h1 : inc x b = 0 := by rw [inc, if_neg]; omega
    have h2 : inc x o = 0 := by rw [inc, if_neg]; omega
    omega
  · rw [hm, bump, bump]; have := h.eq x h0 h7; omega
  · have h1 := h.bd x h0 h7
    have h2 := hi x b; have h3 := hi x o
    rw [bump, bump]; omega
theorem TI.told {T : TS} {B D O : Int → Int} {i : Nat} (h : TI T B D O i) : TI (toldT T) B (fun x => D x + cT T.told x) O i := by
  have h1 : ∀ x, mW (toldT T) x = mW T x - cT T.told x := fun x => by
    have : mW (toldT T) x = cT [] x + wW T x := rfl
    rw [this, cT_nil, mW]; omega
  refine ⟨fun x hx => ?_, fun x h0 h7 => ?_, fun x h0 h7 => ?_⟩
  · have a1 := h.out x hx
    have a2 := cT_ge T.told x
    have a3 := (wW_01 T x).1
    rw [h1, a1]; rw [mW] at a1; omega
  · rw [h1]; have := h.eq x h0 h7; omega
  · have a1 := h.bd x h0 h7
    have a2 := cT_ge T.told x
    omega
theorem TI.rg {T : TS} {B D O : Int → Int} {i : Nat} (h : TI T B D O i) {t : Tg} (ht : t ∈ T.told) : 0 ≤ t.th ∧ t.th ≤ 7 := Decidable.byContradiction fun hn => by
  have a1 := h.out t.th hn
  have a2 := cT_mem ht
  have a3 := (wW_01 T t.th).1
  rw [mW] at a1; omega
theorem TI.le {T : TS} {B D O : Int → Int} {i : Nat} (h : TI T B D O i) {x : Int} (h0 : 0 ≤ x) (h7 : x ≤ 7) (k : Nat) : 0 ≤ D x + cT (T.told.take k) x ∧ D x + cT (T.told.take k) x ≤ i := by
  have a1 := h.eq x h0 h7
  have a2 := h.bd x h0 h7
  have a3 := cT_le T.told k x
  have a4 := (wW_01 T x).1
  have a5 := cT_ge (T.told.take k) x
  rw [mW] at a1; omega

set_option maxRecDepth 4000 in
set_option maxHeartbeats 4000000 in
theorem told_ok (ad : Option Addr) (l : List TAct) (cap : Nat) : FSpec Try.prog 8 [.slice ad l.length cap] (fun F => ∃ E, RdS F E ad (tactsC l)) [] (fun _ : Unit => .bool true) (fun _ => True) (fun _ => []) := by
  refine FSpec.intro (rs := [.tmp 2]) (by kernel_rfl) Try.func8 rfl Try.ntmps8 (by rfl) rfl ?_
  intro F ⟨E, hF⟩
  change TC _ _ _ _ _ _ _ (sepL [_])
  haveI : RdSI F ad E (tactsC l) := ⟨hF⟩
  have hll := tactsC_length l
  refine TC.seq ?_
  refine TC.region ?_
  refine q rfl rfl (asg (v := .bool _) rfl) ?_
  refine TL.nil (nt ?_)
  refine TC.seq ?_
  refine TC.seq ?_
  refine TC.region ?_
  refine e rfl ?_
  refine cl alive_ok rfl (picked_nil _) trivial ?_
  intro _ _
  change TL _ _ _ _ _ _ _ _ (sepL [_])
  first | refine q rfl rfl (notD rfl) ?_ | refine q rfl rfl (notB rfl) ?_
  refine TL.nil (nt ?_)
  refine TC.condF rfl ?_
  refine TC.skip (nt ?_)
  refine TC.seq ?_
  refine TC.seq ?_
  refine TC.region ?_
  refine q rfl rfl (mv (v := .slice _ _ _) rfl) ?_
  refine q rfl rfl (len 59 6 rfl rfl) ?_
  refine q rfl rfl (gtr rfl rfl) ?_
  refine TL.nil (nt ?_)
  first | refine TC.condD rfl (fun hbig => ?_) (fun hbig => ?_) | refine TC.cond rfl (fun hbig => ?_) (fun hbig => ?_)
  · refine TC.seq ?_
    refine TC.region ?_
    refine q rfl rfl (asg (v := .bool _) rfl) ?_
    refine TL.nil (nt ?_)
    refine TC.ret (rt ?_)
    exact Ret.i () [_] ⟨rfl, trivial⟩ rfl trivial (ent_take 0 rfl (ent_nil _))
  · refine TC.skip (nt ?_)
    refine TC.seq ?_
    refine TC.region ?_
    refine e rfl ?_
    refine cl begin_ok rfl (picked_nil _) trivial ?_
    intro a _
    change TL _ _ _ _ _ _ _ _ (sepL [_, _])
    refine q rfl rfl (asg (v := .pointer _) rfl) ?_
    refine TL.nil (nt ?_)
    refine TC.seq ?_
    refine TC.seq ?_
    refine TC.region ?_
    refine q rfl rfl (mv (v := .pointer _) rfl) ?_
    refine q rfl rfl (eqNil rfl rfl rfl) ?_
    refine TL.nil (nt ?_)
    refine TC.condF rfl ?_
    refine TC.skip (nt ?_)
    refine TC.seq ?_
    refine TC.region ?_
    refine e rfl ?_
    refine al (l := [.int _ _, .int _ _, .int _ _, .int _ _, .int _ _, .int _ _, .int _ _, .int _ _]) rfl rfl ?_
    intro b1
    refine e rfl ?_
    refine al (l := [.int _ _, .int _ _, .int _ _, .int _ _, .int _ _, .int _ _, .int _ _, .int _ _]) rfl rfl ?_
    intro b2
    refine e rfl ?_
    refine al (l := [.int _ _, .int _ _, .int _ _, .int _ _, .int _ _, .int _ _, .int _ _, .int _ _]) rfl rfl ?_
    intro b3
    refine TL.nil (nt ?_)
    refine TC.seq ?_
    refine TC.seq ?_
    refine TC.region ?_
    refine q rfl rfl (asg (v := .int _ _) rfl) ?_
    refine TL.nil (nt ?_)
    refine TC.block ?_
    refine TC.loop (ι := Nat × TS × (Int → Int) × (Int → Int) × (Int → Int)) (fun u => u.1 ≤ l.length ∧ R8 u.2.1 (8 + 41 * u.1) ∧ TI u.2.1 u.2.2.1 u.2.2.2.1 u.2.2.2.2 u.1 ∧ (u.1 = l.length → u.2.1.told = [])) (fun u => [(0, .slice ad l.length cap), (3, .pointer (some ⟨a, 0, none⟩)), (4, .pointer (some ⟨b1, 0, none⟩)), (5, .pointer (some ⟨b2, 0, none⟩)), (6, .pointer (some ⟨b3, 0, none⟩)), (7, .int .i64 ((u.1 : Nat) : Int))]) (fun u => sepL [isT a u.2.1, pts b1 55 (fl 8 (GI u.2.2.1)), pts b2 55 (fl 8 (GI u.2.2.2.1)), pts b3 55 (fl 8 (GI u.2.2.2.2)), F]) (fun u => l.length - u.1) ⟨0, bT 8, fun _ => 0, fun _ => 0, fun _ => 0⟩ ⟨Nat.zero_le _, bT_8 8, TI.start, fun _ => by kernel_rfl⟩ ⟨rfl, rfl, rfl, rfl, rfl, rfl, trivial⟩ (ent_take 3 rfl (ent_takeE 2 rfl (by kernel_rfl) (ent_takeE 1 rfl (by kernel_rfl) (ent_takeE 0 rfl (by kernel_rfl) (by repeat (first | exact ent_nil _ | refine ent_take 0 rfl ?_ | refine ent_take 1 rfl ?_ | refine ent_take 2 rfl ?_ | refine ent_take 3 rfl ?_ | refine ent_take 4 rfl ?_ | refine ent_take 5 rfl ?_ | refine ent_take 6 rfl ?_ | refine ent_take 7 rfl ?_ | refine ent_take 8 rfl ?_ | refine ent_take 9 rfl ?_ | refine ent_take 10 rfl ?_ | refine ent_take 11 rfl ?_ | refine ent_take 12 rfl ?_)))))) ?_
    rintro ⟨i, V, B, D, O⟩ ⟨hi, h8, hI, hz⟩ ρ0
    dsimp only [updL] at hi h8 hI hz ⊢
    refine TC.seq ?_
    refine TC.seq ?_
    refine TC.region ?_
    refine q rfl rfl (mv (v := .int _ _) rfl) ?_
    refine q rfl rfl (mv (v := .slice _ _ _) rfl) ?_
    refine q rfl rfl (len 59 6 rfl rfl) ?_
    refine q rfl rfl (lss rfl rfl) ?_
    refine TL.nil (nt ?_)
    first | refine TC.condD rfl (fun hlt => ?_) (fun hlt => ?_) | refine TC.cond rfl (fun hlt => ?_) (fun hlt => ?_)
    · have hlt2 : i < l.length := by omega
      obtain ⟨t, ht⟩ : ∃ t, l[i]? = some t := ⟨l[i], List.getElem?_eq_getElem hlt2⟩
      have hpos : 0 < (tactsC l).length := by omega
      refine TC.skip (nt ?_)
      refine TC.seq ?_
      refine TC.block ?_
      refine TC.seq ?_
      refine TC.region ?_
      refine q rfl rfl (mv (v := .pointer _) rfl) ?_
      refine q rfl rfl (mv (v := .slice _ _ _) rfl) ?_
      refine q rfl rfl (mv (v := .int _ _) rfl) ?_
      first | refine q rfl rfl (ixS 59 6 rfl rfl rfl (by omega) (by first | assumption | (simp [ints_length] <;> omega))) ?_ | refine q rfl rfl (ixJ 59 6 rfl rfl rfl (by omega) (by omega) (by first | assumption | (simp [ints_length] <;> omega))) ?_ | refine q rfl rfl (ix 59 6 rfl rfl rfl (by omega) (by omega) rfl) ?_
      first | refine q rfl rfl (ldN (vs := [_, _, _, _, _, _]) 6 rfl rfl rfl rfl) ?_ | refine q rfl rfl (ldSN (vs := [_, _, _, _, _, _]) 6 rfl rfl (flat_get_rec tactC_sz ht) rfl (by decide)) ?_ | refine q rfl rfl (ldSN (vs := [_, _, _, _, _, _]) 6 rfl rfl rfl rfl (by decide)) ?_
      refine e rfl ?_
      refine cl (play_ok a V (8 + 41 * i) h8 (by omega) t) rfl PkL.p trivial ?_
      intro y hy
      change TL _ _ _ _ _ _ _ _ (sepL [_, _, _, _, _])
      obtain ⟨V2, bb, oo⟩ := y
      obtain ⟨h9, hb, ho, hm⟩ := hy
      dsimp only at h9 hb ho hm ⊢
      have hI2 := hI.play hb ho hm
      refine q rfl rfl (mv (v := .tuple _) rfl) ?_
      refine q rfl rfl (pu (v := .int _ _) (fun _ => rfl)) ?_
      refine q rfl rfl (pu (v := .int _ _) (fun _ => rfl)) ?_
      refine q rfl rfl (asg (v := .int _ _) rfl) ?_
      refine q rfl rfl (asg (v := .int _ _) rfl) ?_
      refine TL.nil (nt ?_)
      refine TC.cut (ι := Unit) (fun _u => True) (fun _u => [(0, .slice ad l.length cap), (3, .pointer (some ⟨a, 0, none⟩)), (4, .pointer (some ⟨b1, 0, none⟩)), (5, .pointer (some ⟨b2, 0, none⟩)), (6, .pointer (some ⟨b3, 0, none⟩)), (7, .int .i64 (i : Int)), (9, .int .i64 oo)]) (fun _u => sepL [isT a V2, pts b1 55 (fl 8 (GI (bump B bb))), pts b2 55 (fl 8 (GI D)), pts b3 55 (fl 8 (GI O)), F]) ?_ ?_
      · refine TC.seq ?_
        refine TC.region ?_
        refine q rfl rfl (mv (v := .int _ _) rfl) ?_
        refine q rfl rfl (geq rfl rfl) ?_
        refine TL.nil (nt ?_)
        first | refine TC.condD rfl (fun hbb => ?_) (fun hbb => ?_) | refine TC.cond rfl (fun hbb => ?_) (fun hbb => ?_)
        · have hbd := hI.bd bb (by omega) (by omega)
          refine TC.region ?_
          refine q rfl rfl (mv (v := .int _ _) rfl) ?_
          refine q rfl rfl (ixAl 8 3 1 rfl rfl rfl (by omega) (by omega)) ?_
          first | refine q rfl rfl (ld rfl rfl rfl) ?_ | refine q rfl rfl (ld rfl rfl (by rw [Nat.zero_add, Nat.mul_one]; exact GI_get B (by omega) (by omega))) ?_ | refine q rfl rfl (ldS rfl rfl rfl) ?_
          first | refine q rfl rfl (addI rfl rfl (by omega) (by omega)) ?_ | refine q rfl rfl (add rfl rfl rfl) ?_
          refine q rfl rfl (ixAl 8 3 1 rfl rfl rfl (by omega) (by omega)) ?_
          refine e0 ?_
          first | refine st (v := .int _ _) (vs := [_]) 1 rfl rfl rfl rfl rfl rfl (Nat.le_of_ble_eq_true rfl) rfl ?_ | refine st (v := .int _ _) (vs := [_]) 1 rfl rfl rfl rfl rfl rfl (by rw [fl_length]; simp <;> omega) ((congrArg (fun n => splice n _ (fl 8 (GI B))) (by rw [Nat.zero_add, Nat.mul_one])).trans (GI_set (g := (bump B bb)) (by omega) (by omega) (by rw [bump, inc_self (by omega) rfl]) (fun y hy => by rw [bump, inc_ne hy, Int.add_zero]))) ?_
          refine TL.nil (nt ?_)
          exact ⟨rfl, (), trivial, ⟨rfl, rfl, rfl, rfl, rfl, rfl, rfl, trivial⟩, (by repeat (first | exact ent_nil _ | refine ent_take 0 rfl ?_ | refine ent_take 1 rfl ?_ | refine ent_take 2 rfl ?_ | refine ent_take 3 rfl ?_ | refine ent_take 4 rfl ?_ | refine ent_take 5 rfl ?_ | refine ent_take 6 rfl ?_ | refine ent_take 7 rfl ?_ | refine ent_take 8 rfl ?_ | refine ent_take 9 rfl ?_ | refine ent_take 10 rfl ?_ | refine ent_take 11 rfl ?_ | refine ent_take 12 rfl ?_))⟩
        · have hb9 : bb = -1 := by omega
          have hB9 : bump B bb = B := funext fun y => by rw [bump, hb9, inc_neg, Int.add_zero]
          refine TC.skip (nt ?_)
          exact ⟨rfl, (), trivial, ⟨rfl, rfl, rfl, rfl, rfl, rfl, rfl, trivial⟩, (by rw [hB9]; exact (by repeat (first | exact ent_nil _ | refine ent_take 0 rfl ?_ | refine ent_take 1 rfl ?_ | refine ent_take 2 rfl ?_ | refine ent_take 3 rfl ?_ | refine ent_take 4 rfl ?_ | refine ent_take 5 rfl ?_ | refine ent_take 6 rfl ?_ | refine ent_take 7 rfl ?_ | refine ent_take 8 rfl ?_ | refine ent_take 9 rfl ?_ | refine ent_take 10 rfl ?_ | refine ent_take 11 rfl ?_ | refine ent_take 12 rfl ?_)))⟩
      · rintro _ _ ρ1
        dsimp only [updL]
        refine TC.cut (ι := Unit) (fun _u => True) (fun _u => [(0, .slice ad l.length cap), (3, .pointer (some ⟨a, 0, none⟩)), (4, .pointer (some ⟨b1, 0, none⟩)), (5, .pointer (some ⟨b2, 0, none⟩)), (6, .pointer (some ⟨b3, 0, none⟩)), (7, .int .i64 (i : Int))]) (fun _u => sepL [isT a V2, pts b1 55 (fl 8 (GI (bump B bb))), pts b2 55 (fl 8 (GI D)), pts b3 55 (fl 8 (GI (bump O oo))), F]) ?_ ?_
        · refine TC.seq ?_
          refine TC.region ?_
          refine q rfl rfl (mv (v := .int _ _) rfl) ?_
          refine q rfl rfl (geq rfl rfl) ?_
          refine TL.nil (nt ?_)
          first | refine TC.condD rfl (fun hoo => ?_) (fun hoo => ?_) | refine TC.cond rfl (fun hoo => ?_) (fun hoo => ?_)
          · have hbd := hI.bd oo (by omega) (by omega)
            refine TC.region ?_
            refine q rfl rfl (mv (v := .int _ _) rfl) ?_
            refine q rfl rfl (ixAl 8 3 1 rfl rfl rfl (by omega) (by omega)) ?_
            first | refine q rfl rfl (ld rfl rfl rfl) ?_ | refine q rfl rfl (ld rfl rfl (by rw [Nat.zero_add, Nat.mul_one]; exact GI_get O (by omega) (by omega))) ?_ | refine q rfl rfl (ldS rfl rfl rfl) ?_
            first | refine q rfl rfl (addI rfl rfl (by omega) (by omega)) ?_ | refine q rfl rfl (add rfl rfl rfl) ?_
            refine q rfl rfl (ixAl 8 3 1 rfl rfl rfl (by omega) (by omega)) ?_
            refine e0 ?_
            first | refine st (v := .int _ _) (vs := [_]) 1 rfl rfl rfl rfl rfl rfl (Nat.le_of_ble_eq_true rfl) rfl ?_ | refine st (v := .int _ _) (vs := [_]) 1 rfl rfl rfl rfl rfl rfl (by rw [fl_length]; simp <;> omega) ((congrArg (fun n => splice n _ (fl 8 (GI O))) (by rw [Nat.zero_add, Nat.mul_one])).trans (GI_set (g := (bump O oo)) (by omega) (by omega) (by rw [bump, inc_self (by omega) rfl]) (fun y hy => by rw [bump, inc_ne hy, Int.add_zero]))) ?_
            refine TL.nil (nt ?_)
            exact ⟨rfl, (), trivial, ⟨rfl, rfl, rfl, rfl, rfl, rfl, trivial⟩, (by repeat (first | exact ent_nil _ | refine ent_take 0 rfl ?_ | refine ent_take 1 rfl ?_ | refine ent_take 2 rfl ?_ | refine ent_take 3 rfl ?_ | refine ent_take 4 rfl ?_ | refine ent_take 5 rfl ?_ | refine ent_take 6 rfl ?_ | refine ent_take 7 rfl ?_ | refine ent_take 8 rfl ?_ | refine ent_take 9 rfl ?_ | refine ent_take 10 rfl ?_ | refine ent_take 11 rfl ?_ | refine ent_take 12 rfl ?_))⟩
          · have ho9 : oo = -1 := by omega
            have hO9 : bump O oo = O := funext fun y => by rw [bump, ho9, inc_neg, Int.add_zero]
            refine TC.skip (nt ?_)
            exact ⟨rfl, (), trivial, ⟨rfl, rfl, rfl, rfl, rfl, rfl, trivial⟩, (by rw [hO9]; exact (by repeat (first | exact ent_nil _ | refine ent_take 0 rfl ?_ | refine ent_take 1 rfl ?_ | refine ent_take 2 rfl ?_ | refine ent_take 3 rfl ?_ | refine ent_take 4 rfl ?_ | refine ent_take 5 rfl ?_ | refine ent_take 6 rfl ?_ | refine ent_take 7 rfl ?_ | refine ent_take 8 rfl ?_ | refine ent_take 9 rfl ?_ | refine ent_take 10 rfl ?_ | refine ent_take 11 rfl ?_ | refine ent_take 12 rfl ?_)))⟩
        · rintro _ _ ρ2
          dsimp only [updL]
          clear hI hm hb ho
          generalize bump B bb = B at hI2 ⊢
          generalize bump O oo = O at hI2 ⊢
          refine TC.seq ?_
          refine TC.region ?_
          refine q rfl rfl (mv (v := .int _ _) rfl) ?_
          first | refine q rfl rfl (remI rfl rfl (by omega) (by omega)) ?_ | refine q rfl rfl (rem rfl rfl (by omega) rfl) ?_
          refine q rfl rfl (eqI rfl rfl) ?_
          refine q rfl rfl (mv (v := .bool _) rfl) ?_
          refine TL.split 55 rfl (fun h2 => ?_) (fun h2 => ?_)
          · have h2 := of_decide_eq_true h2
            refine qs rfl rfl ?_
            refine qs rfl rfl ?_
            refine qs rfl rfl ?_
            refine qs rfl rfl ?_
            refine qs rfl rfl ?_
            first | refine q rfl rfl (pkT (v := .bool _) rfl rfl) ?_ | refine q rfl rfl (pkF (v := .bool _) rfl rfl) ?_
            refine TL.nil (nt ?_)
            refine TC.condT rfl ?_
            refine TC.seq ?_
            refine TC.region ?_
            refine q rfl rfl (mv (v := .pointer _) rfl) ?_
            refine e rfl ?_
            refine cl (ttold_ok a V2) rfl PkL.p trivial ?_
            intro yt _
            change TL _ _ _ _ _ _ _ _ (sepL [_, _, _, _, _, _])
            have hI3 := hI2.told
            have hrg := fun t (h : t ∈ V2.told) => hI2.rg h
            have hle := fun x h0 h7 k => hI2.le (x := x) h0 h7 k
            have h10 : R8 (toldT V2) (8 + 41 * i + 41) := ⟨h9.g.tolds, h9.rg⟩
            have htt : (toldT V2).told = [] := rfl
            have hgl := h9.g.told
            generalize toldT V2 = V3 at hI3 h10 htt ⊢
            generalize V2.told = L at hI3 hrg hle hgl ⊢
            have hLl := tgsC_length L
            refine q rfl rfl (asg (v := .slice _ _ _) rfl) ?_
            refine TL.nil (nt ?_)
            refine TC.seq ?_
            refine TC.region ?_
            refine q rfl rfl (asg (v := .int _ _) rfl) ?_
            refine TL.nil (nt ?_)
            refine TC.block ?_
            refine TC.loop (ι := Nat) (fun k => k ≤ L.length) (fun k => [(0, .slice ad l.length cap), (3, .pointer (some ⟨a, 0, none⟩)), (4, .pointer (some ⟨b1, 0, none⟩)), (5, .pointer (some ⟨b2, 0, none⟩)), (6, .pointer (some ⟨b3, 0, none⟩)), (7, .int .i64 (i : Int)), (10, .slice yt.1 L.length yt.2), (11, .int .i64 ((k : Nat) : Int))]) (fun k => sepL [isT a V3, pts b1 55 (fl 8 (GI B)), pts b2 55 (fl 8 (GI (fun x => D x + cT (L.take k) x))), pts b3 55 (fl 8 (GI O)), slc 39 2 yt.1 L.length yt.2 (tgsC L), F]) (fun k => L.length - k) 0 (Nat.zero_le _) ⟨rfl, rfl, rfl, rfl, rfl, rfl, rfl, rfl, trivial⟩ (ent_take 1 rfl (ent_take 1 rfl (ent_takeE 1 rfl (congrArg (fun g => pts b2 55 (fl 8 (GI g))) (funext fun x => by rw [List.take_zero, cT_nil, Int.add_zero])) (by repeat (first | exact ent_nil _ | refine ent_take 0 rfl ?_ | refine ent_take 1 rfl ?_ | refine ent_take 2 rfl ?_ | refine ent_take 3 rfl ?_ | refine ent_take 4 rfl ?_ | refine ent_take 5 rfl ?_ | refine ent_take 6 rfl ?_ | refine ent_take 7 rfl ?_ | refine ent_take 8 rfl ?_ | refine ent_take 9 rfl ?_ | refine ent_take 10 rfl ?_ | refine ent_take 11 rfl ?_ | refine ent_take 12 rfl ?_))))) ?_
            rintro k hk ρ3
            dsimp only [updL] at hk ⊢
            refine TC.seq ?_
            refine TC.seq ?_
            refine TC.region ?_
            refine q rfl rfl (mv (v := .int _ _) rfl) ?_
            refine q rfl rfl (mv (v := .slice _ _ _) rfl) ?_
            refine q rfl rfl (len 39 2 rfl rfl) ?_
            refine q rfl rfl (lss rfl rfl) ?_
            refine TL.nil (nt ?_)
            first | refine TC.condD rfl (fun hlk => ?_) (fun hlk => ?_) | refine TC.cond rfl (fun hlk => ?_) (fun hlk => ?_)
            · have hk2 : k < L.length := by omega
              obtain ⟨w, hw⟩ : ∃ w, L[k]? = some w := ⟨_, List.getElem?_eq_getElem hk2⟩
              obtain ⟨hr0, hr7⟩ := hrg w (List.mem_of_getElem? hw)
              have hlw := hle w.th hr0 hr7 k
              have hpos2 : 0 < (tgsC L).length := by omega
              refine TC.skip (nt ?_)
              refine TC.seq ?_
              refine TC.block ?_
              refine TC.seq ?_
              refine TC.seq ?_
              refine TC.region ?_
              refine q rfl rfl (mv (v := .slice _ _ _) rfl) ?_
              refine q rfl rfl (mv (v := .int _ _) rfl) ?_
              first | refine q rfl rfl (ixS 39 2 rfl rfl rfl (by omega) (by first | assumption | (simp [ints_length] <;> omega))) ?_ | refine q rfl rfl (ixJ 39 2 rfl rfl rfl (by omega) (by omega) (by first | assumption | (simp [ints_length] <;> omega))) ?_ | refine q rfl rfl (ix 39 2 rfl rfl rfl (by omega) (by omega) rfl) ?_
              first | refine q rfl rfl (fa 0 rfl rfl) ?_ | refine q rfl rfl (faS 0 rfl rfl (by first | assumption | (simp [ints_length] <;> omega))) ?_
              first | refine q rfl rfl (ld rfl rfl rfl) ?_ | refine q rfl rfl (ld rfl rfl (by rw [Nat.zero_add, Nat.mul_one]; exact GI_get (fun x => D x + cT (L.take k) x) (by omega) (by omega))) ?_ | refine q rfl rfl (ldS rfl rfl (flat_ld tgC_sz hw 0 (by omega) rfl)) ?_ | refine q rfl rfl (ldS rfl rfl rfl) ?_
              refine q rfl rfl (lss rfl rfl) ?_
              refine q rfl rfl (mv (v := .bool _) rfl) ?_
              refine TL.known 76 rfl (c := false) (decide_eq_false (by omega)) ?_
              refine qg rfl rfl rfl (mv (v := .slice _ _ _) rfl) ?_
              refine qg rfl rfl rfl (mv (v := .int _ _) rfl) ?_
              first | refine qg rfl rfl rfl (ixS 39 2 rfl rfl rfl (by omega) (by first | assumption | (simp [ints_length] <;> omega))) ?_ | refine qg rfl rfl rfl (ixJ 39 2 rfl rfl rfl (by omega) (by omega) (by first | assumption | (simp [ints_length] <;> omega))) ?_ | refine qg rfl rfl rfl (ix 39 2 rfl rfl rfl (by omega) (by omega) rfl) ?_
              first | refine qg rfl rfl rfl (fa 0 rfl rfl) ?_ | refine qg rfl rfl rfl (faS 0 rfl rfl (by first | assumption | (simp [ints_length] <;> omega))) ?_
              first | refine qg rfl rfl rfl (ld rfl rfl rfl) ?_ | refine qg rfl rfl rfl (ld rfl rfl (by rw [Nat.zero_add, Nat.mul_one]; exact GI_get (fun x => D x + cT (L.take k) x) (by omega) (by omega))) ?_ | refine qg rfl rfl rfl (ldS rfl rfl (flat_ld tgC_sz hw 0 (by omega) rfl)) ?_ | refine qg rfl rfl rfl (ldS rfl rfl rfl) ?_
              refine qg rfl rfl rfl (gtr rfl rfl) ?_
              first | refine q rfl rfl (pkT (v := .bool _) rfl rfl) ?_ | refine q rfl rfl (pkF (v := .bool _) rfl rfl) ?_
              refine TL.nil (nt ?_)
              refine TC.condD rfl (fun hc1 => absurd hc1 (by omega)) (fun hc1 => ?_)
              refine TC.skip (nt ?_)
              refine TC.region ?_
              refine q rfl rfl (mv (v := .slice _ _ _) rfl) ?_
              refine q rfl rfl (mv (v := .int _ _) rfl) ?_
              first | refine q rfl rfl (ixS 39 2 rfl rfl rfl (by omega) (by first | assumption | (simp [ints_length] <;> omega))) ?_ | refine q rfl rfl (ixJ 39 2 rfl rfl rfl (by omega) (by omega) (by first | assumption | (simp [ints_length] <;> omega))) ?_ | refine q rfl rfl (ix 39 2 rfl rfl rfl (by omega) (by omega) rfl) ?_
              first | refine q rfl rfl (fa 0 rfl rfl) ?_ | refine q rfl rfl (faS 0 rfl rfl (by first | assumption | (simp [ints_length] <;> omega))) ?_
              first | refine q rfl rfl (ld rfl rfl rfl) ?_ | refine q rfl rfl (ld rfl rfl (by rw [Nat.zero_add, Nat.mul_one]; exact GI_get (fun x => D x + cT (L.take k) x) (by omega) (by omega))) ?_ | refine q rfl rfl (ldS rfl rfl (flat_ld tgC_sz hw 0 (by omega) rfl)) ?_ | refine q rfl rfl (ldS rfl rfl rfl) ?_
              refine q rfl rfl (ixAl 8 3 1 rfl rfl rfl (by omega) (by omega)) ?_
              first | refine q rfl rfl (ld rfl rfl rfl) ?_ | refine q rfl rfl (ld rfl rfl (by rw [Nat.zero_add, Nat.mul_one]; exact GI_get (fun x => D x + cT (L.take k) x) (by omega) (by omega))) ?_ | refine q rfl rfl (ldS rfl rfl (flat_ld tgC_sz hw 0 (by omega) rfl)) ?_ | refine q rfl rfl (ldS rfl rfl rfl) ?_
              first | refine q rfl rfl (addI rfl rfl (by omega) (by omega)) ?_ | refine q rfl rfl (add rfl rfl rfl) ?_
              refine q rfl rfl (ixAl 8 3 1 rfl rfl rfl (by omega) (by omega)) ?_
              refine e0 ?_
              first | refine st (v := .int _ _) (vs := [_]) 1 rfl rfl rfl rfl rfl rfl (Nat.le_of_ble_eq_true rfl) rfl ?_ | refine st (v := .int _ _) (vs := [_]) 1 rfl rfl rfl rfl rfl rfl (by rw [fl_length]; simp <;> omega) ((congrArg (fun n => splice n _ (fl 8 (GI (fun x => D x + cT (L.take k) x)))) (by rw [Nat.zero_add, Nat.mul_one])).trans (GI_set (g := (fun x => D x + cT (L.take (k + 1)) x)) (by omega) (by omega) (by show D w.th + cT (L.take (k + 1)) w.th = _; rw [cT_snoc hw, if_pos rfl]; omega) (fun y hy => by show D y + cT (L.take (k + 1)) y = D y + cT (L.take k) y; rw [cT_snoc hw, if_neg (fun e9 => hy e9.symm)]; omega))) ?_
              refine TL.nil (nb (nt ?_))
              refine TC.region ?_
              refine q rfl rfl (mv (v := .int _ _) rfl) ?_
              first | refine q rfl rfl (addI rfl rfl (by omega) (by omega)) ?_ | refine q rfl rfl (add rfl rfl rfl) ?_
              refine q rfl rfl (asg (v := .int _ _) rfl) ?_
              refine TL.nil (nt ?_)
              exact ⟨rfl, (k + 1), (by omega), (by omega), ⟨rfl, rfl, rfl, rfl, rfl, rfl, rfl, rfl, trivial⟩, (by repeat (first | exact ent_nil _ | refine ent_take 0 rfl ?_ | refine ent_take 1 rfl ?_ | refine ent_take 2 rfl ?_ | refine ent_take 3 rfl ?_ | refine ent_take 4 rfl ?_ | refine ent_take 5 rfl ?_ | refine ent_take 6 rfl ?_ | refine ent_take 7 rfl ?_ | refine ent_take 8 rfl ?_ | refine ent_take 9 rfl ?_ | refine ent_take 10 rfl ?_ | refine ent_take 11 rfl ?_ | refine ent_take 12 rfl ?_))⟩
            · obtain rfl : k = L.length := by omega
              rw [List.take_length]
              refine TC.exit (et (et (eb (nb (nt ?_)))))
              refine TC.region ?_
              refine q rfl rfl (mv (v := .int _ _) rfl) ?_
              first | refine q rfl rfl (addI rfl rfl (by omega) (by omega)) ?_ | refine q rfl rfl (add rfl rfl rfl) ?_
              refine q rfl rfl (asg (v := .int _ _) rfl) ?_
              refine TL.nil (nt ?_)
              exact ⟨rfl, ⟨i + 1, V3, B, _, O⟩, ⟨by dsimp only; omega, h10.up (by dsimp only; omega), hI3, fun _ => htt⟩, (by dsimp only; omega), ⟨rfl, rfl, rfl, rfl, rfl, rfl, trivial⟩, (by repeat (first | exact ent_nil _ | refine ent_take 0 rfl ?_ | refine ent_take 1 rfl ?_ | refine ent_take 2 rfl ?_ | refine ent_take 3 rfl ?_ | refine ent_take 4 rfl ?_ | refine ent_take 5 rfl ?_ | refine ent_take 6 rfl ?_ | refine ent_take 7 rfl ?_ | refine ent_take 8 rfl ?_ | refine ent_take 9 rfl ?_ | refine ent_take 10 rfl ?_ | refine ent_take 11 rfl ?_ | refine ent_take 12 rfl ?_))⟩
          · have h2 := of_decide_eq_false h2
            refine qg rfl rfl rfl (mv (v := .int _ _) rfl) ?_
            refine qg rfl rfl rfl (mv (v := .slice _ _ _) rfl) ?_
            refine qg rfl rfl rfl (len 59 6 rfl rfl) ?_
            first | refine qg rfl rfl rfl (subI rfl rfl (by omega) (by omega)) ?_ | refine qg rfl rfl rfl (sub rfl rfl rfl) ?_
            refine qg rfl rfl rfl (eqI rfl rfl) ?_
            first | refine q rfl rfl (pkT (v := .bool _) rfl rfl) ?_ | refine q rfl rfl (pkF (v := .bool _) rfl rfl) ?_
            refine TL.nil (nt ?_)
            first | refine TC.condD rfl (fun h3 => ?_) (fun h3 => ?_) | refine TC.cond rfl (fun h3 => ?_) (fun h3 => ?_)
            · refine TC.seq ?_
              refine TC.region ?_
              refine q rfl rfl (mv (v := .pointer _) rfl) ?_
              refine e rfl ?_
              refine cl (ttold_ok a V2) rfl PkL.p trivial ?_
              intro yt _
              change TL _ _ _ _ _ _ _ _ (sepL [_, _, _, _, _, _])
              have hI3 := hI2.told
              have hrg := fun t (h : t ∈ V2.told) => hI2.rg h
              have hle := fun x h0 h7 k => hI2.le (x := x) h0 h7 k
              have h10 : R8 (toldT V2) (8 + 41 * i + 41) := ⟨h9.g.tolds, h9.rg⟩
              have htt : (toldT V2).told = [] := rfl
              have hgl := h9.g.told
              generalize toldT V2 = V3 at hI3 h10 htt ⊢
              generalize V2.told = L at hI3 hrg hle hgl ⊢
              have hLl := tgsC_length L
              refine q rfl rfl (asg (v := .slice _ _ _) rfl) ?_
              refine TL.nil (nt ?_)
              refine TC.seq ?_
              refine TC.region ?_
              refine q rfl rfl (asg (v := .int _ _) rfl) ?_
              refine TL.nil (nt ?_)
              refine TC.block ?_
              refine TC.loop (ι := Nat) (fun k => k ≤ L.length) (fun k => [(0, .slice ad l.length cap), (3, .pointer (some ⟨a, 0, none⟩)), (4, .pointer (some ⟨b1, 0, none⟩)), (5, .pointer (some ⟨b2, 0, none⟩)), (6, .pointer (some ⟨b3, 0, none⟩)), (7, .int .i64 (i : Int)), (10, .slice yt.1 L.length yt.2), (11, .int .i64 ((k : Nat) : Int))]) (fun k => sepL [isT a V3, pts b1 55 (fl 8 (GI B)), pts b2 55 (fl 8 (GI (fun x => D x + cT (L.take k) x))), pts b3 55 (fl 8 (GI O)), slc 39 2 yt.1 L.length yt.2 (tgsC L), F]) (fun k => L.length - k) 0 (Nat.zero_le _) ⟨rfl, rfl, rfl, rfl, rfl, rfl, rfl, rfl, trivial⟩ (ent_take 1 rfl (ent_take 1 rfl (ent_takeE 1 rfl (congrArg (fun g => pts b2 55 (fl 8 (GI g))) (funext fun x => by rw [List.take_zero, cT_nil, Int.add_zero])) (by repeat (first | exact ent_nil _ | refine ent_take 0 rfl ?_ | refine ent_take 1 rfl ?_ | refine ent_take 2 rfl ?_ | refine ent_take 3 rfl ?_ | refine ent_take 4 rfl ?_ | refine ent_take 5 rfl ?_ | refine ent_take 6 rfl ?_ | refine ent_take 7 rfl ?_ | refine ent_take 8 rfl ?_ | refine ent_take 9 rfl ?_ | refine ent_take 10 rfl ?_ | refine ent_take 11 rfl ?_ | refine ent_take 12 rfl ?_))))) ?_
              rintro k hk ρ3
              dsimp only [updL] at hk ⊢
              refine TC.seq ?_
              refine TC.seq ?_
              refine TC.region ?_
              refine q rfl rfl (mv (v := .int _ _) rfl) ?_
              refine q rfl rfl (mv (v := .slice _ _ _) rfl) ?_
              refine q rfl rfl (len 39 2 rfl rfl) ?_
              refine q rfl rfl (lss rfl rfl) ?_
              refine TL.nil (nt ?_)
              first | refine TC.condD rfl (fun hlk => ?_) (fun hlk => ?_) | refine TC.cond rfl (fun hlk => ?_) (fun hlk => ?_)
              · have hk2 : k < L.length := by omega
                obtain ⟨w, hw⟩ : ∃ w, L[k]? = some w := ⟨_, List.getElem?_eq_getElem hk2⟩
                obtain ⟨hr0, hr7⟩ := hrg w (List.mem_of_getElem? hw)
                have hlw := hle w.th hr0 hr7 k
                have hpos2 : 0 < (tgsC L).length := by omega
                refine TC.skip (nt ?_)
                refine TC.seq ?_
                refine TC.block ?_
                refine TC.seq ?_
                refine TC.seq ?_
                refine TC.region ?_
                refine q rfl rfl (mv (v := .slice _ _ _) rfl) ?_
                refine q rfl rfl (mv (v := .int _ _) rfl) ?_
                first | refine q rfl rfl (ixS 39 2 rfl rfl rfl (by omega) (by first | assumption | (simp [ints_length] <;> omega))) ?_ | refine q rfl rfl (ixJ 39 2 rfl rfl rfl (by omega) (by omega) (by first | assumption | (simp [ints_length] <;> omega))) ?_ | refine q rfl rfl (ix 39 2 rfl rfl rfl (by omega) (by omega) rfl) ?_
                first | refine q rfl rfl (fa 0 rfl rfl) ?_ | refine q rfl rfl (faS 0 rfl rfl (by first | assumption | (simp [ints_length] <;> omega))) ?_
                first | refine q rfl rfl (ld rfl rfl rfl) ?_ | refine q rfl rfl (ld rfl rfl (by rw [Nat.zero_add, Nat.mul_one]; exact GI_get (fun x => D x + cT (L.take k) x) (by omega) (by omega))) ?_ | refine q rfl rfl (ldS rfl rfl (flat_ld tgC_sz hw 0 (by omega) rfl)) ?_ | refine q rfl rfl (ldS rfl rfl rfl) ?_
                refine q rfl rfl (lss rfl rfl) ?_
                refine q rfl rfl (mv (v := .bool _) rfl) ?_
                refine TL.known 76 rfl (c := false) (decide_eq_false (by omega)) ?_
                refine qg rfl rfl rfl (mv (v := .slice _ _ _) rfl) ?_
                refine qg rfl rfl rfl (mv (v := .int _ _) rfl) ?_
                first | refine qg rfl rfl rfl (ixS 39 2 rfl rfl rfl (by omega) (by first | assumption | (simp [ints_length] <;> omega))) ?_ | refine qg rfl rfl rfl (ixJ 39 2 rfl rfl rfl (by omega) (by omega) (by first | assumption | (simp [ints_length] <;> omega))) ?_ | refine qg rfl rfl rfl (ix 39 2 rfl rfl rfl (by omega) (by omega) rfl) ?_
                first | refine qg rfl rfl rfl (fa 0 rfl rfl) ?_ | refine qg rfl rfl rfl (faS 0 rfl rfl (by first | assumption | (simp [ints_length] <;> omega))) ?_
                first | refine qg rfl rfl rfl (ld rfl rfl rfl) ?_ | refine qg rfl rfl rfl (ld rfl rfl (by rw [Nat.zero_add, Nat.mul_one]; exact GI_get (fun x => D x + cT (L.take k) x) (by omega) (by omega))) ?_ | refine qg rfl rfl rfl (ldS rfl rfl (flat_ld tgC_sz hw 0 (by omega) rfl)) ?_ | refine qg rfl rfl rfl (ldS rfl rfl rfl) ?_
                refine qg rfl rfl rfl (gtr rfl rfl) ?_
                first | refine q rfl rfl (pkT (v := .bool _) rfl rfl) ?_ | refine q rfl rfl (pkF (v := .bool _) rfl rfl) ?_
                refine TL.nil (nt ?_)
                refine TC.condD rfl (fun hc2 => absurd hc2 (by omega)) (fun hc2 => ?_)
                refine TC.skip (nt ?_)
                refine TC.region ?_
                refine q rfl rfl (mv (v := .slice _ _ _) rfl) ?_
                refine q rfl rfl (mv (v := .int _ _) rfl) ?_
                first | refine q rfl rfl (ixS 39 2 rfl rfl rfl (by omega) (by first | assumption | (simp [ints_length] <;> omega))) ?_ | refine q rfl rfl (ixJ 39 2 rfl rfl rfl (by omega) (by omega) (by first | assumption | (simp [ints_length] <;> omega))) ?_ | refine q rfl rfl (ix 39 2 rfl rfl rfl (by omega) (by omega) rfl) ?_
                first | refine q rfl rfl (fa 0 rfl rfl) ?_ | refine q rfl rfl (faS 0 rfl rfl (by first | assumption | (simp [ints_length] <;> omega))) ?_
                first | refine q rfl rfl (ld rfl rfl rfl) ?_ | refine q rfl rfl (ld rfl rfl (by rw [Nat.zero_add, Nat.mul_one]; exact GI_get (fun x => D x + cT (L.take k) x) (by omega) (by omega))) ?_ | refine q rfl rfl (ldS rfl rfl (flat_ld tgC_sz hw 0 (by omega) rfl)) ?_ | refine q rfl rfl (ldS rfl rfl rfl) ?_
                refine q rfl rfl (ixAl 8 3 1 rfl rfl rfl (by omega) (by omega)) ?_
                first | refine q rfl rfl (ld rfl rfl rfl) ?_ | refine q rfl rfl (ld rfl rfl (by rw [Nat.zero_add, Nat.mul_one]; exact GI_get (fun x => D x + cT (L.take k) x) (by omega) (by omega))) ?_ | refine q rfl rfl (ldS rfl rfl (flat_ld tgC_sz hw 0 (by omega) rfl)) ?_ | refine q rfl rfl (ldS rfl rfl rfl) ?_
                first | refine q rfl rfl (addI rfl rfl (by omega) (by omega)) ?_ | refine q rfl rfl (add rfl rfl rfl) ?_
                refine q rfl rfl (ixAl 8 3 1 rfl rfl rfl (by omega) (by omega)) ?_
                refine e0 ?_
                first | refine st (v := .int _ _) (vs := [_]) 1 rfl rfl rfl rfl rfl rfl (Nat.le_of_ble_eq_true rfl) rfl ?_ | refine st (v := .int _ _) (vs := [_]) 1 rfl rfl rfl rfl rfl rfl (by rw [fl_length]; simp <;> omega) ((congrArg (fun n => splice n _ (fl 8 (GI (fun x => D x + cT (L.take k) x)))) (by rw [Nat.zero_add, Nat.mul_one])).trans (GI_set (g := (fun x => D x + cT (L.take (k + 1)) x)) (by omega) (by omega) (by show D w.th + cT (L.take (k + 1)) w.th = _; rw [cT_snoc hw, if_pos rfl]; omega) (fun y hy => by show D y + cT (L.take (k + 1)) y = D y + cT (L.take k) y; rw [cT_snoc hw, if_neg (fun e9 => hy e9.symm)]; omega))) ?_
                refine TL.nil (nb (nt ?_))
                refine TC.region ?_
                refine q rfl rfl (mv (v := .int _ _) rfl) ?_
                first | refine q rfl rfl (addI rfl rfl (by omega) (by omega)) ?_ | refine q rfl rfl (add rfl rfl rfl) ?_
                refine q rfl rfl (asg (v := .int _ _) rfl) ?_
                refine TL.nil (nt ?_)
                exact ⟨rfl, (k + 1), (by omega), (by omega), ⟨rfl, rfl, rfl, rfl, rfl, rfl, rfl, rfl, trivial⟩, (by repeat (first | exact ent_nil _ | refine ent_take 0 rfl ?_ | refine ent_take 1 rfl ?_ | refine ent_take 2 rfl ?_ | refine ent_take 3 rfl ?_ | refine ent_take 4 rfl ?_ | refine ent_take 5 rfl ?_ | refine ent_take 6 rfl ?_ | refine ent_take 7 rfl ?_ | refine ent_take 8 rfl ?_ | refine ent_take 9 rfl ?_ | refine ent_take 10 rfl ?_ | refine ent_take 11 rfl ?_ | refine ent_take 12 rfl ?_))⟩
              · obtain rfl : k = L.length := by omega
                rw [List.take_length]
                refine TC.exit (et (et (eb (nb (nt ?_)))))
                refine TC.region ?_
                refine q rfl rfl (mv (v := .int _ _) rfl) ?_
                first | refine q rfl rfl (addI rfl rfl (by omega) (by omega)) ?_ | refine q rfl rfl (add rfl rfl rfl) ?_
                refine q rfl rfl (asg (v := .int _ _) rfl) ?_
                refine TL.nil (nt ?_)
                exact ⟨rfl, ⟨i + 1, V3, B, _, O⟩, ⟨by dsimp only; omega, h10.up (by dsimp only; omega), hI3, fun _ => htt⟩, (by dsimp only; omega), ⟨rfl, rfl, rfl, rfl, rfl, rfl, trivial⟩, (by repeat (first | exact ent_nil _ | refine ent_take 0 rfl ?_ | refine ent_take 1 rfl ?_ | refine ent_take 2 rfl ?_ | refine ent_take 3 rfl ?_ | refine ent_take 4 rfl ?_ | refine ent_take 5 rfl ?_ | refine ent_take 6 rfl ?_ | refine ent_take 7 rfl ?_ | refine ent_take 8 rfl ?_ | refine ent_take 9 rfl ?_ | refine ent_take 10 rfl ?_ | refine ent_take 11 rfl ?_ | refine ent_take 12 rfl ?_))⟩
            · refine TC.skip (nb (nt ?_))
              refine TC.region ?_
              refine q rfl rfl (mv (v := .int _ _) rfl) ?_
              first | refine q rfl rfl (addI rfl rfl (by omega) (by omega)) ?_ | refine q rfl rfl (add rfl rfl rfl) ?_
              refine q rfl rfl (asg (v := .int _ _) rfl) ?_
              refine TL.nil (nt ?_)
              exact ⟨rfl, ⟨i + 1, V2, B, D, O⟩, ⟨by dsimp only; omega, h9.up (by dsimp only; omega), hI2, fun h => by dsimp only at h; omega⟩, (by dsimp only; omega), ⟨rfl, rfl, rfl, rfl, rfl, rfl, trivial⟩, (by repeat (first | exact ent_nil _ | refine ent_take 0 rfl ?_ | refine ent_take 1 rfl ?_ | refine ent_take 2 rfl ?_ | refine ent_take 3 rfl ?_ | refine ent_take 4 rfl ?_ | refine ent_take 5 rfl ?_ | refine ent_take 6 rfl ?_ | refine ent_take 7 rfl ?_ | refine ent_take 8 rfl ?_ | refine ent_take 9 rfl ?_ | refine ent_take 10 rfl ?_ | refine ent_take 11 rfl ?_ | refine ent_take 12 rfl ?_))⟩
    · obtain rfl : i = l.length := by omega
      have hz := hz rfl
      refine TC.exit (et (et (eb (nt ?_))))
      refine TC.seq ?_
      refine TC.seq ?_
      refine TC.region ?_
      refine q rfl rfl (asg (v := .int _ _) rfl) ?_
      refine TL.nil (nt ?_)
      refine TC.block ?_
      refine TC.loop (ι := Nat) (fun v => v ≤ 8) (fun v => [(3, .pointer (some ⟨a, 0, none⟩)), (4, .pointer (some ⟨b1, 0, none⟩)), (5, .pointer (some ⟨b2, 0, none⟩)), (6, .pointer (some ⟨b3, 0, none⟩)), (12, .int .i64 ((v : Nat) : Int))]) (fun v => sepL [isT a V, pts b1 55 (fl 8 (GI B)), pts b2 55 (fl 8 (GI D)), pts b3 55 (fl 8 (GI O)), F]) (fun v => 8 - v) 0 (by decide) ⟨rfl, rfl, rfl, rfl, rfl, trivial⟩ (by repeat (first | exact ent_nil _ | refine ent_take 0 rfl ?_ | refine ent_take 1 rfl ?_ | refine ent_take 2 rfl ?_ | refine ent_take 3 rfl ?_ | refine ent_take 4 rfl ?_ | refine ent_take 5 rfl ?_ | refine ent_take 6 rfl ?_ | refine ent_take 7 rfl ?_ | refine ent_take 8 rfl ?_ | refine ent_take 9 rfl ?_ | refine ent_take 10 rfl ?_ | refine ent_take 11 rfl ?_ | refine ent_take 12 rfl ?_)) ?_
      rintro v hv ρ3
      dsimp only [updL] at hv ⊢
      refine TC.seq ?_
      refine TC.seq ?_
      refine TC.region ?_
      refine q rfl rfl (mv (v := .int _ _) rfl) ?_
      refine q rfl rfl (lss rfl rfl) ?_
      refine TL.nil (nt ?_)
      first | refine TC.condD rfl (fun hlv => ?_) (fun hlv => ?_) | refine TC.cond rfl (fun hlv => ?_) (fun hlv => ?_)
      · have hv8 : v < 8 := by omega
        have he := hI.eq v (by omega) (by omega)
        have hbd := hI.bd v (by omega) (by omega)
        have hmw : mW V v = wW V v := by rw [mW, hz, cT_nil]; omega
        rw [hmw] at he
        have h01 := wW_01 V v
        refine TC.skip (nt ?_)
        refine TC.seq ?_
        refine TC.block ?_
        refine TC.seq ?_
        refine TC.region ?_
        refine q rfl rfl (mv (v := .pointer _) rfl) ?_
        refine q rfl rfl (mv (v := .int _ _) rfl) ?_
        refine e rfl ?_
        refine cl (tstate_ok a V v) rfl PkL.p trivial ?_
        intro _ _
        change TL _ _ _ _ _ _ _ _ (sepL [_, _, _, _, _])
        refine q rfl rfl (asg (v := .int _ _) rfl) ?_
        refine TL.nil (nt ?_)
        refine TC.seq ?_
        refine TC.region ?_
        refine q rfl rfl (asg (v := .int _ _) rfl) ?_
        refine TL.nil (nt ?_)
        refine TC.seq ?_
        refine TC.seq ?_
        refine TC.region ?_
        refine q rfl rfl (mv (v := .int _ _) rfl) ?_
        refine q rfl rfl (geq rfl rfl) ?_
        refine q rfl rfl (mv (v := .bool _) rfl) ?_
        refine TL.split 102 rfl (fun w1 => ?_) (fun w1 => ?_)
        · have w1 := of_decide_eq_true w1
          refine qg rfl rfl rfl (mv (v := .int _ _) rfl) ?_
          refine qg rfl rfl rfl (leq rfl rfl) ?_
          first | refine q rfl rfl (pkT (v := .bool _) rfl rfl) ?_ | refine q rfl rfl (pkF (v := .bool _) rfl rfl) ?_
          refine TL.nil (nt ?_)
          first | refine TC.condD rfl (fun w2 => ?_) (fun w2 => ?_) | refine TC.cond rfl (fun w2 => ?_) (fun w2 => ?_)
          · have hww : wW V v = 1 := if_pos ⟨w1, w2⟩
            refine TC.region ?_
            refine q rfl rfl (asg (v := .int _ _) rfl) ?_
            refine TL.nil (nt ?_)
            refine TC.seq ?_
            refine TC.draw _ [] [(0, false), (1, false), (2, false), (3, false), (4, false), (5, false), (6, false), (7, false), (8, false), (9, false), (10, false), (11, false), (12, false)] (by kernel_rfl) (by kernel_rfl) (ent.refl _) ?_
            refine dq rfl rfl rfl (mv (v := .int _ _) rfl) ?_
            refine dq rfl rfl rfl (ixAl 8 3 1 rfl rfl rfl (by omega) (by omega)) ?_
            first | refine dq rfl rfl rfl (ld rfl rfl rfl) ?_ | refine dq rfl rfl rfl (ld rfl rfl (by rw [Nat.zero_add, Nat.mul_one]; exact GI_get B (by omega) (by omega))) ?_ | refine dq rfl rfl rfl (ld rfl rfl (by rw [Nat.zero_add, Nat.mul_one]; exact GI_get D (by omega) (by omega))) ?_ | refine dq rfl rfl rfl (ld rfl rfl (by rw [Nat.zero_add, Nat.mul_one]; exact GI_get O (by omega) (by omega))) ?_ | refine dq rfl rfl rfl (ldS rfl rfl rfl) ?_
            refine dq rfl rfl rfl (mv (v := .int _ _) rfl) ?_
            refine dq rfl rfl rfl (ixAl 8 3 1 rfl rfl rfl (by omega) (by omega)) ?_
            first | refine dq rfl rfl rfl (ld rfl rfl rfl) ?_ | refine dq rfl rfl rfl (ld rfl rfl (by rw [Nat.zero_add, Nat.mul_one]; exact GI_get B (by omega) (by omega))) ?_ | refine dq rfl rfl rfl (ld rfl rfl (by rw [Nat.zero_add, Nat.mul_one]; exact GI_get D (by omega) (by omega))) ?_ | refine dq rfl rfl rfl (ld rfl rfl (by rw [Nat.zero_add, Nat.mul_one]; exact GI_get O (by omega) (by omega))) ?_ | refine dq rfl rfl rfl (ldS rfl rfl rfl) ?_
            refine dq rfl rfl rfl (mv (v := .int _ _) rfl) ?_
            refine dq rfl rfl rfl (ixAl 8 3 1 rfl rfl rfl (by omega) (by omega)) ?_
            first | refine dq rfl rfl rfl (ld rfl rfl rfl) ?_ | refine dq rfl rfl rfl (ld rfl rfl (by rw [Nat.zero_add, Nat.mul_one]; exact GI_get B (by omega) (by omega))) ?_ | refine dq rfl rfl rfl (ld rfl rfl (by rw [Nat.zero_add, Nat.mul_one]; exact GI_get D (by omega) (by omega))) ?_ | refine dq rfl rfl rfl (ld rfl rfl (by rw [Nat.zero_add, Nat.mul_one]; exact GI_get O (by omega) (by omega))) ?_ | refine dq rfl rfl rfl (ldS rfl rfl rfl) ?_
            first | refine dq rfl rfl rfl (addI rfl rfl (by omega) (by omega)) ?_ | refine dq rfl rfl rfl (add rfl rfl rfl) ?_
            refine dq rfl rfl rfl (mv (v := .int _ _) rfl) ?_
            first | refine dq rfl rfl rfl (addI rfl rfl (by omega) (by omega)) ?_ | refine dq rfl rfl rfl (add rfl rfl rfl) ?_
            refine dq rfl rfl rfl (neI rfl rfl) ?_
            refine TD.nil (nt ?_)
            refine TC.condD rfl (fun hc3 => absurd hc3 (by omega)) (fun hc3 => ?_)
            refine TC.skip (nb (nt ?_))
            refine TC.region ?_
            refine q rfl rfl (mv (v := .int _ _) rfl) ?_
            first | refine q rfl rfl (addI rfl rfl (by omega) (by omega)) ?_ | refine q rfl rfl (add rfl rfl rfl) ?_
            refine q rfl rfl (asg (v := .int _ _) rfl) ?_
            refine TL.nil (nt ?_)
            exact ⟨rfl, (v + 1), (by omega), (by omega), ⟨rfl, rfl, rfl, rfl, rfl, trivial⟩, (by repeat (first | exact ent_nil _ | refine ent_take 0 rfl ?_ | refine ent_take 1 rfl ?_ | refine ent_take 2 rfl ?_ | refine ent_take 3 rfl ?_ | refine ent_take 4 rfl ?_ | refine ent_take 5 rfl ?_ | refine ent_take 6 rfl ?_ | refine ent_take 7 rfl ?_ | refine ent_take 8 rfl ?_ | refine ent_take 9 rfl ?_ | refine ent_take 10 rfl ?_ | refine ent_take 11 rfl ?_ | refine ent_take 12 rfl ?_))⟩
          · have hww : wW V v = 0 := if_neg (fun h => w2 h.2)
            refine TC.skip (nt ?_)
            refine TC.seq ?_
            refine TC.draw _ [] [(0, false), (1, false), (2, false), (3, false), (4, false), (5, false), (6, false), (7, false), (8, false), (9, false), (10, false), (11, false), (12, false)] (by kernel_rfl) (by kernel_rfl) (ent.refl _) ?_
            refine dq rfl rfl rfl (mv (v := .int _ _) rfl) ?_
            refine dq rfl rfl rfl (ixAl 8 3 1 rfl rfl rfl (by omega) (by omega)) ?_
            first | refine dq rfl rfl rfl (ld rfl rfl rfl) ?_ | refine dq rfl rfl rfl (ld rfl rfl (by rw [Nat.zero_add, Nat.mul_one]; exact GI_get B (by omega) (by omega))) ?_ | refine dq rfl rfl rfl (ld rfl rfl (by rw [Nat.zero_add, Nat.mul_one]; exact GI_get D (by omega) (by omega))) ?_ | refine dq rfl rfl rfl (ld rfl rfl (by rw [Nat.zero_add, Nat.mul_one]; exact GI_get O (by omega) (by omega))) ?_ | refine dq rfl rfl rfl (ldS rfl rfl rfl) ?_
            refine dq rfl rfl rfl (mv (v := .int _ _) rfl) ?_
            refine dq rfl rfl rfl (ixAl 8 3 1 rfl rfl rfl (by omega) (by omega)) ?_
            first | refine dq rfl rfl rfl (ld rfl rfl rfl) ?_ | refine dq rfl rfl rfl (ld rfl rfl (by rw [Nat.zero_add, Nat.mul_one]; exact GI_get B (by omega) (by omega))) ?_ | refine dq rfl rfl rfl (ld rfl rfl (by rw [Nat.zero_add, Nat.mul_one]; exact GI_get D (by omega) (by omega))) ?_ | refine dq rfl rfl rfl (ld rfl rfl (by rw [Nat.zero_add, Nat.mul_one]; exact GI_get O (by omega) (by omega))) ?_ | refine dq rfl rfl rfl (ldS rfl rfl rfl) ?_
            refine dq rfl rfl rfl (mv (v := .int _ _) rfl) ?_
            refine dq rfl rfl rfl (ixAl 8 3 1 rfl rfl rfl (by omega) (by omega)) ?_
            first | refine dq rfl rfl rfl (ld rfl rfl rfl) ?_ | refine dq rfl rfl rfl (ld rfl rfl (by rw [Nat.zero_add, Nat.mul_one]; exact GI_get B (by omega) (by omega))) ?_ | refine dq rfl rfl rfl (ld rfl rfl (by rw [Nat.zero_add, Nat.mul_one]; exact GI_get D (by omega) (by omega))) ?_ | refine dq rfl rfl rfl (ld rfl rfl (by rw [Nat.zero_add, Nat.mul_one]; exact GI_get O (by omega) (by omega))) ?_ | refine dq rfl rfl rfl (ldS rfl rfl rfl) ?_
            first | refine dq rfl rfl rfl (addI rfl rfl (by omega) (by omega)) ?_ | refine dq rfl rfl rfl (add rfl rfl rfl) ?_
            refine dq rfl rfl rfl (mv (v := .int _ _) rfl) ?_
            first | refine dq rfl rfl rfl (addI rfl rfl (by omega) (by omega)) ?_ | refine dq rfl rfl rfl (add rfl rfl rfl) ?_
            refine dq rfl rfl rfl (neI rfl rfl) ?_
            refine TD.nil (nt ?_)
            refine TC.condD rfl (fun hc4 => absurd hc4 (by omega)) (fun hc4 => ?_)
            refine TC.skip (nb (nt ?_))
            refine TC.region ?_
            refine q rfl rfl (mv (v := .int _ _) rfl) ?_
            first | refine q rfl rfl (addI rfl rfl (by omega) (by omega)) ?_ | refine q rfl rfl (add rfl rfl rfl) ?_
            refine q rfl rfl (asg (v := .int _ _) rfl) ?_
            refine TL.nil (nt ?_)
            exact ⟨rfl, (v + 1), (by omega), (by omega), ⟨rfl, rfl, rfl, rfl, rfl, trivial⟩, (by repeat (first | exact ent_nil _ | refine ent_take 0 rfl ?_ | refine ent_take 1 rfl ?_ | refine ent_take 2 rfl ?_ | refine ent_take 3 rfl ?_ | refine ent_take 4 rfl ?_ | refine ent_take 5 rfl ?_ | refine ent_take 6 rfl ?_ | refine ent_take 7 rfl ?_ | refine ent_take 8 rfl ?_ | refine ent_take 9 rfl ?_ | refine ent_take 10 rfl ?_ | refine ent_take 11 rfl ?_ | refine ent_take 12 rfl ?_))⟩
        · have w1 := of_decide_eq_false w1
          refine qs rfl rfl ?_
          refine qs rfl rfl ?_
          first | refine q rfl rfl (pkT (v := .bool _) rfl rfl) ?_ | refine q rfl rfl (pkF (v := .bool _) rfl rfl) ?_
          refine TL.nil (nt ?_)
          refine TC.condF rfl ?_
          have hww : wW V v = 0 := if_neg (fun h => w1 h.1)
          refine TC.skip (nt ?_)
          refine TC.seq ?_
          refine TC.draw _ [] [(0, false), (1, false), (2, false), (3, false), (4, false), (5, false), (6, false), (7, false), (8, false), (9, false), (10, false), (11, false), (12, false)] (by kernel_rfl) (by kernel_rfl) (ent.refl _) ?_
          refine dq rfl rfl rfl (mv (v := .int _ _) rfl) ?_
          refine dq rfl rfl rfl (ixAl 8 3 1 rfl rfl rfl (by omega) (by omega)) ?_
          first | refine dq rfl rfl rfl (ld rfl rfl rfl) ?_ | refine dq rfl rfl rfl (ld rfl rfl (by rw [Nat.zero_add, Nat.mul_one]; exact GI_get B (by omega) (by omega))) ?_ | refine dq rfl rfl rfl (ld rfl rfl (by rw [Nat.zero_add, Nat.mul_one]; exact GI_get D (by omega) (by omega))) ?_ | refine dq rfl rfl rfl (ld rfl rfl (by rw [Nat.zero_add, Nat.mul_one]; exact GI_get O (by omega) (by omega))) ?_ | refine dq rfl rfl rfl (ldS rfl rfl rfl) ?_
          refine dq rfl rfl rfl (mv (v := .int _ _) rfl) ?_
          refine dq rfl rfl rfl (ixAl 8 3 1 rfl rfl rfl (by omega) (by omega)) ?_
          first | refine dq rfl rfl rfl (ld rfl rfl rfl) ?_ | refine dq rfl rfl rfl (ld rfl rfl (by rw [Nat.zero_add, Nat.mul_one]; exact GI_get B (by omega) (by omega))) ?_ | refine dq rfl rfl rfl (ld rfl rfl (by rw [Nat.zero_add, Nat.mul_one]; exact GI_get D (by omega) (by omega))) ?_ | refine dq rfl rfl rfl (ld rfl rfl (by rw [Nat.zero_add, Nat.mul_one]; exact GI_get O (by omega) (by omega))) ?_ | refine dq rfl rfl rfl (ldS rfl rfl rfl) ?_
          refine dq rfl rfl rfl (mv (v := .int _ _) rfl) ?_
          refine dq rfl rfl rfl (ixAl 8 3 1 rfl rfl rfl (by omega) (by omega)) ?_
          first | refine dq rfl rfl rfl (ld rfl rfl rfl) ?_ | refine dq rfl rfl rfl (ld rfl rfl (by rw [Nat.zero_add, Nat.mul_one]; exact GI_get B (by omega) (by omega))) ?_ | refine dq rfl rfl rfl (ld rfl rfl (by rw [Nat.zero_add, Nat.mul_one]; exact GI_get D (by omega) (by omega))) ?_ | refine dq rfl rfl rfl (ld rfl rfl (by rw [Nat.zero_add, Nat.mul_one]; exact GI_get O (by omega) (by omega))) ?_ | refine dq rfl rfl rfl (ldS rfl rfl rfl) ?_
          first | refine dq rfl rfl rfl (addI rfl rfl (by omega) (by omega)) ?_ | refine dq rfl rfl rfl (add rfl rfl rfl) ?_
          refine dq rfl rfl rfl (mv (v := .int _ _) rfl) ?_
          first | refine dq rfl rfl rfl (addI rfl rfl (by omega) (by omega)) ?_ | refine dq rfl rfl rfl (add rfl rfl rfl) ?_
          refine dq rfl rfl rfl (neI rfl rfl) ?_
          refine TD.nil (nt ?_)
          refine TC.condD rfl (fun hc5 => absurd hc5 (by omega)) (fun hc5 => ?_)
          refine TC.skip (nb (nt ?_))
          refine TC.region ?_
          refine q rfl rfl (mv (v := .int _ _) rfl) ?_
          first | refine q rfl rfl (addI rfl rfl (by omega) (by omega)) ?_ | refine q rfl rfl (add rfl rfl rfl) ?_
          refine q rfl rfl (asg (v := .int _ _) rfl) ?_
          refine TL.nil (nt ?_)
          exact ⟨rfl, (v + 1), (by omega), (by omega), ⟨rfl, rfl, rfl, rfl, rfl, trivial⟩, (by repeat (first | exact ent_nil _ | refine ent_take 0 rfl ?_ | refine ent_take 1 rfl ?_ | refine ent_take 2 rfl ?_ | refine ent_take 3 rfl ?_ | refine ent_take 4 rfl ?_ | refine ent_take 5 rfl ?_ | refine ent_take 6 rfl ?_ | refine ent_take 7 rfl ?_ | refine ent_take 8 rfl ?_ | refine ent_take 9 rfl ?_ | refine ent_take 10 rfl ?_ | refine ent_take 11 rfl ?_ | refine ent_take 12 rfl ?_))⟩
      · refine TC.exit (et (et (eb (nt ?_))))
        refine TC.seq ?_
        refine TC.region ?_
        refine q rfl rfl (asg (v := .bool _) rfl) ?_
        refine TL.nil (nt ?_)
        refine TC.ret ?_
        exact Ret.i () [_] ⟨rfl, trivial⟩ rfl trivial (by repeat (first | exact ent_nil _ | refine ent_take 0 rfl ?_ | refine ent_take 1 rfl ?_ | refine ent_take 2 rfl ?_ | refine ent_take 3 rfl ?_ | refine ent_take 4 rfl ?_ | refine ent_take 5 rfl ?_ | refine ent_take 6 rfl ?_ | refine ent_take 7 rfl ?_ | refine ent_take 8 rfl ?_ | refine ent_take 9 rfl ?_ | refine ent_take 10 rfl ?_ | refine ent_take 11 rfl ?_ | refine ent_take 12 rfl ?_))

end Go.Proofs.Ytdfmfhcjnjfjbaa
