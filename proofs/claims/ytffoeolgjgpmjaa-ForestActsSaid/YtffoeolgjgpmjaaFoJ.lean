/-
  Proved here: what functions of this program compute, each as a contract over symbolic states, under the premises that each theorem names (most lines printed by a program of the prover).
-/
import Derived.Test.YtffoeolgjgpmjaaFoI
namespace Go.Proofs.Ytffoeolgjgpmjaa
open Go Go.QM
theorem anc_up {L : List Fn} {last : Int} (h : WI L last) {t : Fn} (ht : t ∈ L) {k : Int} : Anc L k t.id ↔ k = t.id ∨ Anc L k t.par := by
  constructor
  · intro a
    generalize hx : t.id = x at a
    cases a with
    | refl => exact .inl rfl
    | step hu hb => rw [h.nd.inj ht hu hx]; exact .inr hb
  · rintro (rfl | a)
    · exact .refl
    · exact .step ht a
theorem bel_up {L : List Fn} {last : Int} (h : WI L last) {t : Fn} (ht : t ∈ L) {id : Int} (h0 : 1 ≤ id) : t.id ∈ belR L last id ↔ hasN L id ∧ Anc L id t.par := by
  rw [belR]
  split
  · rename_i hp
    rw [mem_bel h (show id ≠ 0 by omega), anc_up h ht]
    constructor
    · rintro ⟨h1 | h1, h2⟩
      · exact absurd h1.symm h2
      · exact ⟨hp, h1⟩
    · rintro ⟨_, h1⟩
      have := h1.le h
      have := h.rg t ht
      exact ⟨.inr h1, by omega⟩
  · rename_i hp
    exact ⟨fun h => (List.not_mem_nil h).elim, fun h => absurd h.1 hp⟩
theorem bel_par {L : List Fn} {last : Int} (h : WI L last) {t : Fn} (ht : t ∈ L) {id : Int} (h0 : 1 ≤ id) (hm : t.id ∈ belR L last id) (hp : t.par ≠ id) : t.par ∈ belR L last id := by
  obtain ⟨h1, h2⟩ := (bel_up h ht h0).1 hm
  rw [belR, if_pos h1, mem_bel h (show id ≠ 0 by omega)]
  exact ⟨h2, hp⟩
structure PlI (B : List Int) (i : Nat) (g : Nat → Int) : Prop where
  no : ∀ v : Nat, (v : Int) ∉ B.take i → g v = 0
  yes : ∀ (v j : Nat), j < i → B[j]? = some (v : Int) → g v = (j : Int) + 1
theorem PlI.start (B : List Int) : PlI B 0 fun _ => 0 := ⟨fun _ _ => rfl, fun _ _ h => by omega⟩
def plS (g : Nat → Int) (x : Int) (i : Nat) (v : Nat) : Int := if (v : Int) = x then (i : Int) + 1 else g v
theorem PlI.next {B : List Int} {i : Nat} {g : Nat → Int} (h : PlI B i g) {x : Int} (hx : B[i]? = some x) (hn : x ∉ B.take i) : PlI B (i + 1) (plS g x i) where
  no := fun v hv => by
    rw [List.take_add_one, hx] at hv
    simp only [Option.toList, List.mem_append, List.mem_singleton, not_or] at hv
    rw [plS, if_neg hv.2]; exact h.no v hv.1
  yes := fun v j hj hv => by
    rw [plS]
    by_cases e : j = i
    · subst e; rw [hx] at hv; rw [if_pos (Option.some.inj hv).symm]
    · have hji : j < i := by omega
      have hm : (v : Int) ∈ B.take i := by
        refine List.mem_of_getElem? (i := j) ?_
        rw [List.getElem?_take, if_pos hji]; exact hv
      rw [if_neg (fun e2 : (v : Int) = x => hn (by rw [← e2]; exact hm))]
      exact h.yes v j hji hv
def plC (g : Nat → Int) : List Value := fl 70 fun v => .int .i64 (g v)
theorem pl_get (g : Nat → Int) {x : Int} (h0 : 0 ≤ x) (h1 : x < 70) : (plC g)[x.toNat]? = some (.int .i64 (g x.toNat)) := fl_get _ (by omega)
theorem pl_set (g : Nat → Int) {x : Int} (i : Nat) (h0 : 0 ≤ x) (h1 : x < 70) : splice x.toNat [.int .i64 ((i : Int) + 1)] (plC g) = plC (plS g x i) := by
  refine fl_set (by omega) ?_ fun u hu => ?_
  · rw [plS, if_pos (by omega)]
  · rw [plS, if_neg (by omega)]
theorem PlI.pos {B : List Int} {g : Nat → Int} (h : PlI B B.length g) {x : Int} (h0 : 0 ≤ x) : (0 < g x.toNat ↔ x ∈ B) ∧ ∀ j : Nat, B[j]? = some x → g x.toNat = (j : Int) + 1 := by
  have hx : ((x.toNat : Nat) : Int) = x := Int.toNat_of_nonneg h0
  have hy : ∀ j : Nat, B[j]? = some x → g x.toNat = (j : Int) + 1 := fun j hj => by
    obtain ⟨a1, _⟩ := List.getElem?_eq_some_iff.1 hj
    exact h.yes _ j a1 (by rw [hx]; exact hj)
  refine ⟨⟨fun h1 => ?_, fun h1 => ?_⟩, hy⟩
  · by_cases h2 : x ∈ B
    · exact h2
    · have := h.no x.toNat (by rw [hx, List.take_length]; exact h2)
      omega
  · obtain ⟨j, hj⟩ := List.getElem?_of_mem h1
    have := hy j hj; omega

set_option maxHeartbeats 1000000 in
theorem below_ok (ad : Option Addr) (l : List Int) (cap : Nat) (y : Int) (hl8 : ∀ x ∈ l, 0 ≤ x ∧ x ≤ 255) (hy : 0 ≤ y ∧ y ≤ 255) : FSpec Try.prog 6 [.slice ad l.length cap, .int .u8 y] (fun F => ∃ E, RdS F E ad (nums .u8 l)) [] (fun _ : Unit => .bool true) (fun _ => True) (fun _ => []) := by
  refine FSpec.intro (rs := [.tmp 4]) (by kernel_rfl) Try.func6 rfl Try.ntmps6 (by rfl) rfl ?_
  intro F ⟨E, hF⟩
  change TC _ _ _ _ _ _ _ (sepL [_])
  haveI : RdSI F ad E (nums .u8 l) := ⟨hF⟩
  refine TC.seq ?_
  refine TC.region ?_
  refine q rfl rfl (asg (v := .bool _) rfl) ?_
  refine TL.nil (nt ?_)
  refine TC.seq ?_
  refine TC.seq ?_
  refine TC.region ?_
  refine e rfl ?_
  refine cl alive_ok rfl (picked_nil _) trivial ?_
  intro _ _
  change TL _ _ _ _ _ _ _ _ (sepL [_])
  first | refine q rfl rfl (notD rfl) ?_ | refine q rfl rfl (notB rfl) ?_
  refine TL.nil (nt ?_)
  refine TC.condF rfl ?_
  refine TC.skip (nt ?_)
  refine TC.seq ?_
  refine TC.seq ?_
  refine TC.region ?_
  refine q rfl rfl (mv (v := .slice _ _ _) rfl) ?_
  refine q rfl rfl (len 5 1 rfl rfl) ?_
  refine q rfl rfl (gtr rfl rfl) ?_
  refine TL.nil (nt ?_)
  first | refine TC.condD rfl (fun hbig => ?_) (fun hbig => ?_) | refine TC.cond rfl (fun hbig => ?_) (fun hbig => ?_)
  · refine TC.seq ?_
    refine TC.region ?_
    refine q rfl rfl (asg (v := .bool _) rfl) ?_
    refine TL.nil (nt ?_)
    refine TC.ret (rt ?_)
    exact Ret.i () [_] ⟨rfl, trivial⟩ rfl trivial (ent_take 0 rfl (ent_nil _))
  · have hl60 : l.length ≤ 60 := by omega
    refine TC.skip (nt ?_)
    refine TC.seq ?_
    refine TC.region ?_
    refine e rfl ?_
    refine cl fnew_ok rfl (picked_nil _) trivial ?_
    intro a _
    change TL _ _ _ _ _ _ _ _ (sepL [_, _])
    refine q rfl rfl (asg (v := .pointer _) rfl) ?_
    refine TL.nil (nt ?_)
    refine TC.seq ?_
    refine TC.seq ?_
    refine TC.region ?_
    refine q rfl rfl (asg (v := .int _ _) rfl) ?_
    refine TL.nil (nt ?_)
    refine TC.block ?_
    refine TC.loop (ι := Nat) (fun i => i ≤ l.length) (fun i => [(0, .slice ad l.length cap), (1, .int .u8 y), (5, .pointer (some ⟨a, 0, none⟩)), (6, .int .i64 ((i : Nat) : Int))]) (fun i => sepL [isF a (tr o0 l i) (i : Int), F]) (fun i => l.length - i) 0 (Nat.zero_le _) ⟨rfl, rfl, rfl, rfl, trivial⟩ (ent_take 0 rfl (ent_take 0 rfl (ent_nil _))) ?_
    rintro i hi ρ0
    dsimp only [updL] at hi ⊢
    refine TC.seq ?_
    refine TC.seq ?_
    refine TC.region ?_
    refine q rfl rfl (mv (v := .int _ _) rfl) ?_
    refine q rfl rfl (mv (v := .slice _ _ _) rfl) ?_
    refine q rfl rfl (len 5 1 rfl rfl) ?_
    refine q rfl rfl (lss rfl rfl) ?_
    refine TL.nil (nt ?_)
    first | refine TC.condD rfl (fun hlt => ?_) (fun hlt => ?_) | refine TC.cond rfl (fun hlt => ?_) (fun hlt => ?_)
    · have hlt2 : i < l.length := by omega
      obtain ⟨x, hx⟩ : ∃ x, l[i]? = some x := ⟨l[i], List.getElem?_eq_getElem hlt2⟩
      have hx8 := hl8 x (List.mem_of_getElem? hx)
      have hpos : 0 < (nums .u8 l).length := by rw [nums_length]; omega
      have hadd : addN (tr o0 l i) (i : Int) (x % ((i : Int) + 1)) (0, (i : Int)) = (tr o0 l (i + 1), ((i + 1 : Nat) : Int), (i : Int) + 1, 0) := tr_add o0_inj l i hx
      refine TC.skip (nt ?_)
      refine TC.seq ?_
      refine TC.block ?_
      refine TC.seq ?_
      refine TC.region ?_
      refine q rfl rfl (mv (v := .pointer _) rfl) ?_
      refine q rfl rfl (mv (v := .slice _ _ _) rfl) ?_
      refine q rfl rfl (mv (v := .int _ _) rfl) ?_
      first | refine q rfl rfl (ixS 5 1 rfl rfl rfl (by omega) (by first | assumption | (simp [ints_length] <;> omega))) ?_ | refine q rfl rfl (ixJ 5 1 rfl rfl rfl (by omega) (by omega) (by first | assumption | (simp [ints_length] <;> omega))) ?_ | refine q rfl rfl (ix 5 1 rfl rfl rfl (by omega) (by omega) rfl) ?_
      first | refine q rfl rfl (ld rfl rfl rfl) ?_ | refine q rfl rfl (ldS rfl rfl (nums_get hx)) ?_ | refine q rfl rfl (ldS rfl rfl rfl) ?_
      first | refine q rfl rfl (conv .u8 .i64 rfl rfl rfl (wi64 (by omega) (by omega))) ?_ | refine q rfl rfl (conv .u8 .i64 rfl rfl rfl rfl) ?_
      refine q rfl rfl (mv (v := .int _ _) rfl) ?_
      first | refine q rfl rfl (addI rfl rfl (by omega) (by omega)) ?_ | refine q rfl rfl (add rfl rfl rfl) ?_
      first | refine q rfl rfl (remI rfl rfl (by omega) (by omega)) ?_ | refine q rfl rfl (rem rfl rfl (by omega) rfl) ?_
      refine q rfl rfl (mv (v := .int _ _) rfl) ?_
      refine e rfl ?_
      refine cl (fadd_ok a (tr o0 l i) (i : Int) (x % ((i : Int) + 1)) 0 i (by omega)) rfl PkL.p trivial ?_
      intro _ _
      change TL _ _ _ _ _ _ _ _ (sepL [_, _])
      rw [hadd]
      dsimp only
      refine q rfl rfl (mv (v := .tuple _) rfl) ?_
      refine q rfl rfl (pu (v := .int _ _) (fun _ => rfl)) ?_
      refine q rfl rfl (pu (v := .int _ _) (fun _ => rfl)) ?_
      refine q rfl rfl (asg (v := .int _ _) rfl) ?_
      refine q rfl rfl (asg (v := .int _ _) rfl) ?_
      refine TL.nil (nt ?_)
      refine TC.seq ?_
      refine TC.region ?_
      refine q rfl rfl (mv (v := .int _ _) rfl) ?_
      refine q rfl rfl (neI rfl rfl) ?_
      refine TL.nil (nt ?_)
      refine TC.condD rfl (fun hc1 => absurd hc1 (by decide)) (fun hc1 => ?_)
      refine TC.skip (nb (nt ?_))
      refine TC.region ?_
      refine q rfl rfl (mv (v := .int _ _) rfl) ?_
      first | refine q rfl rfl (addI rfl rfl (by omega) (by omega)) ?_ | refine q rfl rfl (add rfl rfl rfl) ?_
      refine q rfl rfl (asg (v := .int _ _) rfl) ?_
      refine TL.nil (nt ?_)
      exact ⟨rfl, (i + 1), (by omega), (by omega), ⟨rfl, rfl, rfl, rfl, trivial⟩, (ent_take 0 rfl (ent_take 0 rfl (ent_nil _)))⟩
    · obtain rfl : i = l.length := by omega
      clear hi hlt
      have hW := tr_wi o0_inj l l.length
      have hlen := tr_len o0 l l.length
      have hhas : ∀ x, hasN (tr o0 l l.length) x ↔ 1 ≤ x ∧ x ≤ (l.length : Int) := fun x => tr_has
      have hm0 := Int.emod_nonneg y (show (l.length : Int) + 1 ≠ 0 by omega)
      have hm1 := Int.emod_lt_of_pos y (show (0 : Int) < (l.length : Int) + 1 by omega)
      obtain ⟨id, hid, hi1, hi2⟩ : ∃ id, id = 1 + y % ((l.length : Int) + 1) ∧ 1 ≤ id ∧ id ≤ (l.length : Int) + 1 := ⟨_, rfl, by omega, by omega⟩
      generalize tr o0 l l.length = L at hW hlen hhas ⊢
      have hbn := belR_nd hW id
      have hbm : ∀ x, x ∈ belR L l.length id → 1 ≤ x ∧ x ≤ (l.length : Int) ∧ x ≠ id := fun x hx => by
        have := belR_mem hW hx; omega
      have hbl := belR_len hW id
      have hup : ∀ t ∈ L, (t.id ∈ belR L l.length id ↔ id ≤ (l.length : Int) ∧ Anc L id t.par) := fun t ht => by
        rw [bel_up hW ht hi1, hhas]; exact ⟨fun h => ⟨h.1.2, h.2⟩, fun h => ⟨⟨hi1, h.1⟩, h.2⟩⟩
      have hpm := fun t ht => bel_par hW (t := t) ht hi1
      have hor := fun i j t ht => bel_ord hW (p := id) (i := i) (j := j) (t := t) ht
      have hpv : ∀ t ∈ L, parN L t.id = t.par := fun t ht => by rw [parN, findN_yes hW.nd ht]
      have hb0 : belR L l.length 0 = [] := belR_none (by rw [hhas]; omega)
      refine TC.exit (et (et (eb (nt ?_))))
      refine TC.seq ?_
      refine TC.region ?_
      refine q rfl rfl (mv (v := .int _ _) rfl) ?_
      first | refine q rfl rfl (conv .u8 .i64 rfl rfl rfl (wi64 (by omega) (by omega))) ?_ | refine q rfl rfl (conv .u8 .i64 rfl rfl rfl rfl) ?_
      refine q rfl rfl (mv (v := .slice _ _ _) rfl) ?_
      refine q rfl rfl (len 5 1 rfl rfl) ?_
      first | refine q rfl rfl (addI rfl rfl (by omega) (by omega)) ?_ | refine q rfl rfl (add rfl rfl rfl) ?_
      first | refine q rfl rfl (remI rfl rfl (by omega) (by omega)) ?_ | refine q rfl rfl (rem rfl rfl (by omega) rfl) ?_
      first | refine q rfl rfl (addI rfl rfl (by omega) (by omega)) ?_ | refine q rfl rfl (add rfl rfl rfl) ?_
      refine q rfl rfl (asg (v := .int _ _) rfl) ?_
      refine TL.nil (nt ?_)
      refine TC.seq ?_
      refine TC.region ?_
      refine q rfl rfl (mv (v := .pointer _) rfl) ?_
      refine q rfl rfl (mv (v := .int _ _) rfl) ?_
      rw [← hid]
      refine e rfl ?_
      refine cl (fbelow_ok a L l.length id (by omega)) rfl PkL.p trivial ?_
      intro y1 _
      change TL _ _ _ _ _ _ _ _ (sepL [_, _, _])
      generalize hB : belR L l.length id = B at hbn hbm hbl hup hpm hor ⊢
      have hil := ints_length B
      refine q rfl rfl (asg (v := .slice _ _ _) rfl) ?_
      refine TL.nil (nt ?_)
      refine TC.seq ?_
      refine TC.region ?_
      refine e rfl ?_
      refine al (l := _) rfl rfl ?_
      intro b1
      refine TL.nil (nt ?_)
      refine TC.seq ?_
      refine TC.seq ?_
      refine TC.region ?_
      refine q rfl rfl (asg (v := .int _ _) rfl) ?_
      refine TL.nil (nt ?_)
      refine TC.block ?_
      refine TC.loop (ι := Nat × (Nat → Int)) (fun s => s.1 ≤ B.length ∧ PlI B s.1 s.2) (fun s => [(0, .slice ad l.length cap), (5, .pointer (some ⟨a, 0, none⟩)), (9, .int .i64 id), (11, .pointer (some ⟨b1, 0, none⟩)), (10, .slice y1.1 B.length y1.2), (12, .int .i64 ((s.1 : Nat) : Int))]) (fun s => sepL [pts b1 58 (plC s.2), slc 3 1 y1.1 B.length y1.2 (ints B), isF a L l.length, F]) (fun s => B.length - s.1) ⟨0, fun _ => 0⟩ ⟨Nat.zero_le _, PlI.start B⟩ ⟨rfl, rfl, rfl, rfl, rfl, rfl, trivial⟩ (ent_takeE 0 rfl (by kernel_rfl) (ent_take 0 rfl (ent_take 0 rfl (ent_take 0 rfl (ent_nil _))))) ?_
      rintro ⟨i, g⟩ ⟨hi, hI⟩ ρ1
      dsimp only [updL] at hi hI ⊢
      refine TC.seq ?_
      refine TC.seq ?_
      refine TC.region ?_
      refine q rfl rfl (mv (v := .int _ _) rfl) ?_
      refine q rfl rfl (mv (v := .slice _ _ _) rfl) ?_
      refine q rfl rfl (len 3 1 rfl rfl) ?_
      refine q rfl rfl (lss rfl rfl) ?_
      refine TL.nil (nt ?_)
      first | refine TC.condD rfl (fun hlt => ?_) (fun hlt => ?_) | refine TC.cond rfl (fun hlt => ?_) (fun hlt => ?_)
      · have hlt2 : i < B.length := by omega
        obtain ⟨x, hx⟩ : ∃ x, B[i]? = some x := ⟨B[i], List.getElem?_eq_getElem hlt2⟩
        have hxm := hbm x (List.mem_of_getElem? hx)
        have hfr := nd_fresh hbn hx
        have hpos : 0 < (ints B).length := by omega
        have hgx : (plC g)[x.toNat]? = some (.int .i64 0) := by
          rw [pl_get g (by omega) (by omega), hI.no _ (by rw [Int.toNat_of_nonneg (by omega)]; exact hfr)]
        refine TC.skip (nt ?_)
        refine TC.seq ?_
        refine TC.block ?_
        refine TC.seq ?_
        refine TC.seq ?_
        refine TC.region ?_
        refine q rfl rfl (mv (v := .slice _ _ _) rfl) ?_
        refine q rfl rfl (mv (v := .int _ _) rfl) ?_
        first | refine q rfl rfl (ixS 3 1 rfl rfl rfl (by omega) (by first | assumption | (simp [ints_length] <;> omega))) ?_ | refine q rfl rfl (ixJ 3 1 rfl rfl rfl (by omega) (by omega) (by first | assumption | (simp [ints_length] <;> omega))) ?_ | refine q rfl rfl (ix 3 1 rfl rfl rfl (by omega) (by omega) rfl) ?_
        first | refine q rfl rfl (ld rfl rfl rfl) ?_ | refine q rfl rfl (ld rfl rfl (by rw [Nat.zero_add, Nat.mul_one]; exact hgx)) ?_ | refine q rfl rfl (ldS rfl rfl (ints_get hx)) ?_ | refine q rfl rfl (ldS rfl rfl rfl) ?_
        refine q rfl rfl (lss rfl rfl) ?_
        refine q rfl rfl (mv (v := .bool _) rfl) ?_
        refine TL.known 66 rfl (c := false) (decide_eq_false (by omega)) ?_
        refine qg rfl rfl rfl (mv (v := .slice _ _ _) rfl) ?_
        refine qg rfl rfl rfl (mv (v := .int _ _) rfl) ?_
        first | refine qg rfl rfl rfl (ixS 3 1 rfl rfl rfl (by omega) (by first | assumption | (simp [ints_length] <;> omega))) ?_ | refine qg rfl rfl rfl (ixJ 3 1 rfl rfl rfl (by omega) (by omega) (by first | assumption | (simp [ints_length] <;> omega))) ?_ | refine qg rfl rfl rfl (ix 3 1 rfl rfl rfl (by omega) (by omega) rfl) ?_
        first | refine qg rfl rfl rfl (ld rfl rfl rfl) ?_ | refine qg rfl rfl rfl (ld rfl rfl (by rw [Nat.zero_add, Nat.mul_one]; exact hgx)) ?_ | refine qg rfl rfl rfl (ldS rfl rfl (ints_get hx)) ?_ | refine qg rfl rfl rfl (ldS rfl rfl rfl) ?_
        refine qg rfl rfl rfl (mv (v := .slice _ _ _) rfl) ?_
        refine qg rfl rfl rfl (len 5 1 rfl rfl) ?_
        refine qg rfl rfl rfl (gtr rfl rfl) ?_
        first | refine q rfl rfl (pkT rfl rfl) ?_ | refine q rfl rfl (pkF rfl rfl) ?_
        refine q rfl rfl (mv (v := .bool _) rfl) ?_
        refine TL.known 75 rfl (c := false) (decide_eq_false (by omega)) ?_
        refine qg rfl rfl rfl (mv (v := .slice _ _ _) rfl) ?_
        refine qg rfl rfl rfl (mv (v := .int _ _) rfl) ?_
        first | refine qg rfl rfl rfl (ixS 3 1 rfl rfl rfl (by omega) (by first | assumption | (simp [ints_length] <;> omega))) ?_ | refine qg rfl rfl rfl (ixJ 3 1 rfl rfl rfl (by omega) (by omega) (by first | assumption | (simp [ints_length] <;> omega))) ?_ | refine qg rfl rfl rfl (ix 3 1 rfl rfl rfl (by omega) (by omega) rfl) ?_
        first | refine qg rfl rfl rfl (ld rfl rfl rfl) ?_ | refine qg rfl rfl rfl (ld rfl rfl (by rw [Nat.zero_add, Nat.mul_one]; exact hgx)) ?_ | refine qg rfl rfl rfl (ldS rfl rfl (ints_get hx)) ?_ | refine qg rfl rfl rfl (ldS rfl rfl rfl) ?_
        refine qg rfl rfl rfl (ixAl 70 3 1 rfl rfl rfl (by omega) (by omega)) ?_
        first | refine qg rfl rfl rfl (ld rfl rfl rfl) ?_ | refine qg rfl rfl rfl (ld rfl rfl (by rw [Nat.zero_add, Nat.mul_one]; exact hgx)) ?_ | refine qg rfl rfl rfl (ldS rfl rfl (ints_get hx)) ?_ | refine qg rfl rfl rfl (ldS rfl rfl rfl) ?_
        refine qg rfl rfl rfl (neI rfl rfl) ?_
        first | refine q rfl rfl (pkT rfl rfl) ?_ | refine q rfl rfl (pkF rfl rfl) ?_
        refine TL.nil (nt ?_)
        refine TC.condD rfl (fun hc2 => absurd hc2 (by decide)) (fun hc2 => ?_)
        refine TC.skip (nt ?_)
        refine TC.region ?_
        refine q rfl rfl (mv (v := .slice _ _ _) rfl) ?_
        refine q rfl rfl (mv (v := .int _ _) rfl) ?_
        first | refine q rfl rfl (ixS 3 1 rfl rfl rfl (by omega) (by first | assumption | (simp [ints_length] <;> omega))) ?_ | refine q rfl rfl (ixJ 3 1 rfl rfl rfl (by omega) (by omega) (by first | assumption | (simp [ints_length] <;> omega))) ?_ | refine q rfl rfl (ix 3 1 rfl rfl rfl (by omega) (by omega) rfl) ?_
        first | refine q rfl rfl (ld rfl rfl rfl) ?_ | refine q rfl rfl (ld rfl rfl (by rw [Nat.zero_add, Nat.mul_one]; exact hgx)) ?_ | refine q rfl rfl (ldS rfl rfl (ints_get hx)) ?_ | refine q rfl rfl (ldS rfl rfl rfl) ?_
        refine q rfl rfl (mv (v := .int _ _) rfl) ?_
        first | refine q rfl rfl (addI rfl rfl (by omega) (by omega)) ?_ | refine q rfl rfl (add rfl rfl rfl) ?_
        refine q rfl rfl (ixAl 70 3 1 rfl rfl rfl (by omega) (by omega)) ?_
        refine e0 ?_
        first | refine st (v := .int _ _) (vs := [_]) 1 rfl rfl rfl rfl rfl rfl (Nat.le_of_ble_eq_true rfl) rfl ?_ | refine st (v := .int _ _) (vs := [_]) 1 rfl rfl rfl rfl rfl rfl (by rw [plC, fl_length]; simp <;> omega) ((congrArg (fun n => splice n [.int .i64 ((i : Int) + 1)] (plC g)) (by rw [Nat.zero_add, Nat.mul_one])).trans (pl_set g i (by omega) (by omega))) ?_
        refine TL.nil (nb (nt ?_))
        refine TC.region ?_
        refine q rfl rfl (mv (v := .int _ _) rfl) ?_
        first | refine q rfl rfl (addI rfl rfl (by omega) (by omega)) ?_ | refine q rfl rfl (add rfl rfl rfl) ?_
        refine q rfl rfl (asg (v := .int _ _) rfl) ?_
        refine TL.nil (nt ?_)
        exact ⟨rfl, ⟨i + 1, plS g x i⟩, ⟨by dsimp only; omega, hI.next hx hfr⟩, (by dsimp only; omega), ⟨rfl, rfl, rfl, rfl, rfl, rfl, trivial⟩, (by repeat (first | exact ent_nil _ | refine ent_take 0 rfl ?_ | refine ent_take 1 rfl ?_ | refine ent_take 2 rfl ?_ | refine ent_take 3 rfl ?_ | refine ent_take 4 rfl ?_ | refine ent_take 5 rfl ?_ | refine ent_take 6 rfl ?_ | refine ent_take 7 rfl ?_ | refine ent_take 8 rfl ?_ | refine ent_take 9 rfl ?_ | refine ent_take 10 rfl ?_ | refine ent_take 11 rfl ?_ | refine ent_take 12 rfl ?_))⟩
      · obtain rfl : i = B.length := by omega
        clear hi hlt
        refine TC.exit (et (et (eb (nt ?_))))
        refine TC.seq ?_
        refine TC.seq ?_
        refine TC.region ?_
        refine q rfl rfl (asg (v := .int _ _) rfl) ?_
        refine TL.nil (nt ?_)
        refine TC.block ?_
        refine TC.loop (ι := Nat) (fun n => 1 ≤ n ∧ n ≤ l.length + 1) (fun n => [(0, .slice ad l.length cap), (5, .pointer (some ⟨a, 0, none⟩)), (9, .int .i64 id), (11, .pointer (some ⟨b1, 0, none⟩)), (13, .int .i64 ((n : Nat) : Int))]) (fun n => sepL [pts b1 58 (plC g), isF a L l.length, F]) (fun n => l.length + 1 - n) 1 ⟨Nat.le_refl _, by omega⟩ ⟨rfl, rfl, rfl, rfl, rfl, trivial⟩ (by repeat (first | exact ent_nil _ | refine ent_take 0 rfl ?_ | refine ent_take 1 rfl ?_ | refine ent_take 2 rfl ?_ | refine ent_take 3 rfl ?_ | refine ent_take 4 rfl ?_ | refine ent_take 5 rfl ?_ | refine ent_take 6 rfl ?_ | refine ent_take 7 rfl ?_ | refine ent_take 8 rfl ?_ | refine ent_take 9 rfl ?_ | refine ent_take 10 rfl ?_ | refine ent_take 11 rfl ?_ | refine ent_take 12 rfl ?_)) ?_
        rintro n ⟨hn1, hn2⟩ ρ2
        dsimp only [updL] at hn1 hn2 ⊢
        refine TC.seq ?_
        refine TC.seq ?_
        refine TC.region ?_
        refine q rfl rfl (mv (v := .int _ _) rfl) ?_
        refine q rfl rfl (mv (v := .slice _ _ _) rfl) ?_
        refine q rfl rfl (len 5 1 rfl rfl) ?_
        refine q rfl rfl (leq rfl rfl) ?_
        refine TL.nil (nt ?_)
        first | refine TC.condD rfl (fun hlt => ?_) (fun hlt => ?_) | refine TC.cond rfl (fun hlt => ?_) (fun hlt => ?_)
        · have hlt2 : n ≤ l.length := by omega
          obtain ⟨t, ht, htn⟩ := (hhas (n : Int)).2 ⟨by omega, by omega⟩
          have hg := hW.rg t ht
          have hgn : (plC g)[((n : Int)).toNat]? = some (.int .i64 (g n)) := pl_get g (x := (n : Int)) (by omega) (by omega)
          have hgq := (hI.pos (x := (n : Int)) (by omega)).1
          have hgj := (hI.pos (x := (n : Int)) (by omega)).2
          rw [Int.toNat_natCast] at hgq hgj
          have hu0 := hup t ht
          have hpt := hpv t ht
          rw [htn] at hu0 hpt
          refine TC.skip (nt ?_)
          refine TC.seq ?_
          refine TC.block ?_
          refine TC.seq ?_
          refine TC.region ?_
          refine q rfl rfl (mv (v := .pointer _) rfl) ?_
          refine q rfl rfl (mv (v := .int _ _) rfl) ?_
          refine e rfl ?_
          refine cl (fpar_ok a L l.length (n : Int)) rfl PkL.p trivial ?_
          intro _ _
          change TL _ _ _ _ _ _ _ _ (sepL [_, _, _])
          rw [hpt]
          refine q rfl rfl (asg (v := .int _ _) rfl) ?_
          refine TL.nil (nt ?_)
          refine TC.seq ?_
          refine TC.seq ?_
          refine TC.region ?_
          refine q rfl rfl (asg (v := .int _ _) rfl) ?_
          refine TL.nil (nt ?_)
          refine TC.block ?_
          refine TC.loop (ι := Nat × Int) (fun s => 0 ≤ s.2 ∧ s.2 + s.1 < n ∧ ((n : Int) ∈ B ↔ id ≤ (l.length : Int) ∧ Anc L id s.2)) (fun s => [(0, .slice ad l.length cap), (5, .pointer (some ⟨a, 0, none⟩)), (9, .int .i64 id), (11, .pointer (some ⟨b1, 0, none⟩)), (13, .int .i64 (n : Int)), (14, .int .i64 s.2), (15, .int .i64 ((s.1 : Nat) : Int))]) (fun s => sepL [pts b1 58 (plC g), isF a L l.length, F]) (fun s => 70 - s.1) ⟨0, t.par⟩ ⟨hg.2.2.1, by dsimp only; omega, hu0⟩ ⟨rfl, rfl, rfl, rfl, rfl, rfl, rfl, trivial⟩ (by repeat (first | exact ent_nil _ | refine ent_take 0 rfl ?_ | refine ent_take 1 rfl ?_ | refine ent_take 2 rfl ?_ | refine ent_take 3 rfl ?_ | refine ent_take 4 rfl ?_ | refine ent_take 5 rfl ?_ | refine ent_take 6 rfl ?_ | refine ent_take 7 rfl ?_ | refine ent_take 8 rfl ?_ | refine ent_take 9 rfl ?_ | refine ent_take 10 rfl ?_ | refine ent_take 11 rfl ?_ | refine ent_take 12 rfl ?_)) ?_
          rintro ⟨k, up⟩ ⟨hk0, hk1, hk2⟩ ρ3
          dsimp only [updL] at hk0 hk1 hk2 ⊢
          refine TC.seq ?_
          refine TC.seq ?_
          refine TC.region ?_
          refine q rfl rfl (mv (v := .int _ _) rfl) ?_
          refine q rfl rfl (lss rfl rfl) ?_
          refine q rfl rfl (mv (v := .bool _) rfl) ?_
          refine TL.known 102 rfl (c := true) (decide_eq_true (by omega)) ?_
          refine qg rfl rfl rfl (mv (v := .int _ _) rfl) ?_
          refine qg rfl rfl rfl (neI rfl rfl) ?_
          first | refine q rfl rfl (pkT rfl rfl) ?_ | refine q rfl rfl (pkF rfl rfl) ?_
          refine q rfl rfl (mv (v := .bool _) rfl) ?_
          refine TL.split 106 rfl (fun hz => ?_) (fun hz => ?_)
          · have hz := of_decide_eq_true hz
            refine qg rfl rfl rfl (mv (v := .int _ _) rfl) ?_
            refine qg rfl rfl rfl (mv (v := .int _ _) rfl) ?_
            refine qg rfl rfl rfl (neI rfl rfl) ?_
            first | refine q rfl rfl (pkT rfl rfl) ?_ | refine q rfl rfl (pkF rfl rfl) ?_
            refine TL.nil (nt ?_)
            first | refine TC.condD rfl (fun hne => ?_) (fun hne => ?_) | refine TC.cond rfl (fun hne => ?_) (fun hne => ?_)
            · obtain ⟨t2, ht2, ht2n⟩ := (hhas up).2 ⟨by omega, by omega⟩
              have hg2 := hW.rg t2 ht2
              have hpt2 := hpv t2 ht2
              rw [ht2n] at hpt2
              have ha2 := anc_up hW ht2 (k := id)
              rw [ht2n] at ha2
              refine TC.skip (nt ?_)
              refine TC.seq ?_
              refine TC.block ?_
              refine TC.region ?_
              refine q rfl rfl (mv (v := .pointer _) rfl) ?_
              refine q rfl rfl (mv (v := .int _ _) rfl) ?_
              refine e rfl ?_
              refine cl (fpar_ok a L l.length up) rfl PkL.p trivial ?_
              intro _ _
              change TL _ _ _ _ _ _ _ _ (sepL [_, _, _])
              rw [hpt2]
              refine q rfl rfl (asg (v := .int _ _) rfl) ?_
              refine TL.nil (nb (nt ?_))
              refine TC.region ?_
              refine q rfl rfl (mv (v := .int _ _) rfl) ?_
              first | refine q rfl rfl (addI rfl rfl (by omega) (by omega)) ?_ | refine q rfl rfl (add rfl rfl rfl) ?_
              refine q rfl rfl (asg (v := .int _ _) rfl) ?_
              refine TL.nil (nt ?_)
              exact ⟨rfl, ⟨k + 1, t2.par⟩, ⟨hg2.2.2.1, by dsimp only; omega, hk2.trans (by rw [ha2]; exact ⟨fun h => ⟨h.1, h.2.elim (fun e2 => absurd e2.symm hne) (fun h => h)⟩, fun h => ⟨h.1, .inr h.2⟩⟩)⟩, (by dsimp only; omega), ⟨rfl, rfl, rfl, rfl, rfl, rfl, rfl, trivial⟩, (by repeat (first | exact ent_nil _ | refine ent_take 0 rfl ?_ | refine ent_take 1 rfl ?_ | refine ent_take 2 rfl ?_ | refine ent_take 3 rfl ?_ | refine ent_take 4 rfl ?_ | refine ent_take 5 rfl ?_ | refine ent_take 6 rfl ?_ | refine ent_take 7 rfl ?_ | refine ent_take 8 rfl ?_ | refine ent_take 9 rfl ?_ | refine ent_take 10 rfl ?_ | refine ent_take 11 rfl ?_ | refine ent_take 12 rfl ?_))⟩
            · obtain rfl : up = id := by omega
              have hin : (n : Int) ∈ B ↔ up ≤ (l.length : Int) := by rw [hk2]; exact ⟨fun h => h.1, fun h => ⟨h, .refl⟩⟩
              refine TC.exit (et (et (eb (nt ?_))))
              refine TC.seq ?_
              refine TC.seq ?_
              refine TC.region ?_
              refine q rfl rfl (mv (v := .int _ _) rfl) ?_
              refine q rfl rfl (mv (v := .int _ _) rfl) ?_
              refine q rfl rfl (eqI rfl rfl) ?_
              refine q rfl rfl (mv (v := .bool _) rfl) ?_
              refine TL.known 119 rfl (c := true) (decide_eq_true (by omega)) ?_
              refine qg rfl rfl rfl (mv (v := .int _ _) rfl) ?_
              refine qg rfl rfl rfl (mv (v := .slice _ _ _) rfl) ?_
              refine qg rfl rfl rfl (len 5 1 rfl rfl) ?_
              refine qg rfl rfl rfl (leq rfl rfl) ?_
              first | refine q rfl rfl (pkT rfl rfl) ?_ | refine q rfl rfl (pkF rfl rfl) ?_
              refine q rfl rfl (mv (v := .int _ _) rfl) ?_
              refine q rfl rfl (ixAl 70 3 1 rfl rfl rfl (by omega) (by omega)) ?_
              first | refine q rfl rfl (ld rfl rfl rfl) ?_ | refine q rfl rfl (ld rfl rfl (by rw [Nat.zero_add, Nat.mul_one]; exact hgn)) ?_ | refine q rfl rfl (ld rfl rfl (by rw [Nat.zero_add, Nat.mul_one]; exact hgp)) ?_ | refine q rfl rfl (ldS rfl rfl rfl) ?_
              refine q rfl rfl (gtr rfl rfl) ?_
              refine q rfl rfl (neBo rfl rfl rfl) ?_
              refine TL.nil (nt ?_)
              have hd : decide (up ≤ (l.length : Int)) = decide (0 < g n) := decide_eq_decide.2 (hin.symm.trans hgq.symm)
              rw [hd, bne_self_eq_false]
              refine TC.condF rfl ?_
              refine TC.skip (nt ?_)
              refine TC.seq ?_
              refine TC.region ?_
              refine q rfl rfl (mv (v := .pointer _) rfl) ?_
              refine q rfl rfl (mv (v := .int _ _) rfl) ?_
              refine e rfl ?_
              refine cl (fpar_ok a L l.length (n : Int)) rfl PkL.p trivial ?_
              intro _ _
              change TL _ _ _ _ _ _ _ _ (sepL [_, _, _])
              rw [hpt]
              refine q rfl rfl (asg (v := .int _ _) rfl) ?_
              refine TL.nil (nt ?_)
              refine TC.seq ?_
              refine TC.draw _ [] [(0, false), (1, false), (2, false), (3, false), (4, false), (5, false), (6, false), (7, false), (8, false), (9, false), (10, false), (11, false), (12, false), (13, false), (14, false), (15, false), (16, false), (17, false), (18, false), (19, false), (20, false), (21, false), (22, false), (23, false), (24, false), (25, false), (26, false), (27, false)] (by kernel_rfl) (by kernel_rfl) (ent.refl _) ?_
              refine dq rfl rfl rfl (mv (v := .int _ _) rfl) ?_
              refine dq rfl rfl rfl (ixAl 70 3 1 rfl rfl rfl (by omega) (by omega)) ?_
              first | refine dq rfl rfl rfl (ld rfl rfl rfl) ?_ | refine dq rfl rfl rfl (ld rfl rfl (by rw [Nat.zero_add, Nat.mul_one]; exact hgn)) ?_ | refine dq rfl rfl rfl (ld rfl rfl (by rw [Nat.zero_add, Nat.mul_one]; exact hgp)) ?_ | refine dq rfl rfl rfl (ldS rfl rfl rfl) ?_
              refine dq rfl rfl rfl (gtr rfl rfl) ?_
              refine dq rfl rfl rfl (mv (v := .bool _) rfl) ?_
              refine TD.split 137 rfl (fun hmn => ?_) (fun hmn => ?_)
              · have hmn := of_decide_eq_true hmn
                have hmB : (n : Int) ∈ B := hgq.1 hmn
                refine dg rfl rfl rfl rfl (mv (v := .int _ _) rfl) ?_
                refine dg rfl rfl rfl rfl (mv (v := .int _ _) rfl) ?_
                refine dg rfl rfl rfl rfl (neI rfl rfl) ?_
                first | refine dq rfl rfl rfl (pkT rfl rfl) ?_ | refine dq rfl rfl rfl (pkF rfl rfl) ?_
                refine dq rfl rfl rfl (mv (v := .bool _) rfl) ?_
                refine TD.split 142 rfl (fun hpe => ?_) (fun hpe => ?_)
                · have hpe := of_decide_eq_true hpe
                  have hpB := hpm t ht (by rw [htn]; exact hmB) hpe
                  obtain ⟨hp1, hp2, _⟩ := hbm _ hpB
                  obtain ⟨i1, hi1'⟩ := List.getElem?_of_mem hmB
                  obtain ⟨j1, hj1⟩ := List.getElem?_of_mem hpB
                  have hlt3 := hor i1 j1 t ht (by rw [htn]; exact hi1') hj1
                  have hv1 := hgj i1 hi1'
                  have hv2 := (hI.pos (x := t.par) (by omega)).2 j1 hj1
                  have hgp : (plC g)[(t.par).toNat]? = some (.int .i64 (g t.par.toNat)) := pl_get g (by omega) (by omega)
                  refine dg rfl rfl rfl rfl (mv (v := .int _ _) rfl) ?_
                  refine dg rfl rfl rfl rfl (lss rfl rfl) ?_
                  refine dg rfl rfl rfl rfl (mv (v := .bool _) rfl) ?_
                  refine TD.known 145 rfl (b' := false) (decide_eq_false (by omega)) ?_
                  refine dg rfl rfl rfl rfl (mv (v := .int _ _) rfl) ?_
                  refine dg rfl rfl rfl rfl (mv (v := .slice _ _ _) rfl) ?_
                  refine dg rfl rfl rfl rfl (len 5 1 rfl rfl) ?_
                  refine dg rfl rfl rfl rfl (gtr rfl rfl) ?_
                  first | refine dg rfl rfl rfl rfl (pkT rfl rfl) ?_ | refine dg rfl rfl rfl rfl (pkF rfl rfl) ?_
                  refine dg rfl rfl rfl rfl (mv (v := .bool _) rfl) ?_
                  refine TD.known 151 rfl (b' := false) (decide_eq_false (by omega)) ?_
                  refine dg rfl rfl rfl rfl (mv (v := .int _ _) rfl) ?_
                  refine dg rfl rfl rfl rfl (ixAl 70 3 1 rfl rfl rfl (by omega) (by omega)) ?_
                  first | refine dg rfl rfl rfl rfl (ld rfl rfl rfl) ?_ | refine dg rfl rfl rfl rfl (ld rfl rfl (by rw [Nat.zero_add, Nat.mul_one]; exact hgn)) ?_ | refine dg rfl rfl rfl rfl (ld rfl rfl (by rw [Nat.zero_add, Nat.mul_one]; exact hgp)) ?_ | refine dg rfl rfl rfl rfl (ldS rfl rfl rfl) ?_
                  refine dg rfl rfl rfl rfl (mv (v := .int _ _) rfl) ?_
                  refine dg rfl rfl rfl rfl (ixAl 70 3 1 rfl rfl rfl (by omega) (by omega)) ?_
                  first | refine dg rfl rfl rfl rfl (ld rfl rfl rfl) ?_ | refine dg rfl rfl rfl rfl (ld rfl rfl (by rw [Nat.zero_add, Nat.mul_one]; exact hgn)) ?_ | refine dg rfl rfl rfl rfl (ld rfl rfl (by rw [Nat.zero_add, Nat.mul_one]; exact hgp)) ?_ | refine dg rfl rfl rfl rfl (ldS rfl rfl rfl) ?_
                  refine dg rfl rfl rfl rfl (lss rfl rfl) ?_
                  first | refine dg rfl rfl rfl rfl (pkT rfl rfl) ?_ | refine dg rfl rfl rfl rfl (pkF rfl rfl) ?_
                  first | refine dq rfl rfl rfl (pkT rfl rfl) ?_ | refine dq rfl rfl rfl (pkF rfl rfl) ?_
                  refine TD.nil (nt ?_)
                  refine TC.condD rfl (fun hc3 => absurd hc3 (by omega)) (fun hc3 => ?_)
                  refine TC.skip (nb (nt ?_))
                  refine TC.region ?_
                  refine q rfl rfl (mv (v := .int _ _) rfl) ?_
                  first | refine q rfl rfl (addI rfl rfl (by omega) (by omega)) ?_ | refine q rfl rfl (add rfl rfl rfl) ?_
                  refine q rfl rfl (asg (v := .int _ _) rfl) ?_
                  refine TL.nil (nt ?_)
                  exact ⟨rfl, (n + 1), (by omega), (by omega), ⟨rfl, rfl, rfl, rfl, rfl, trivial⟩, (by repeat (first | exact ent_nil _ | refine ent_take 0 rfl ?_ | refine ent_take 1 rfl ?_ | refine ent_take 2 rfl ?_ | refine ent_take 3 rfl ?_ | refine ent_take 4 rfl ?_ | refine ent_take 5 rfl ?_ | refine ent_take 6 rfl ?_ | refine ent_take 7 rfl ?_ | refine ent_take 8 rfl ?_ | refine ent_take 9 rfl ?_ | refine ent_take 10 rfl ?_ | refine ent_take 11 rfl ?_ | refine ent_take 12 rfl ?_))⟩
                · have hpe := of_decide_eq_false hpe
                  refine dk rfl rfl rfl rfl ?_
                  refine dk rfl rfl rfl rfl ?_
                  refine dk rfl rfl rfl rfl ?_
                  refine dku rfl rfl rfl rfl ?_
                  refine dku rfl rfl rfl rfl ?_
                  refine dku rfl rfl rfl rfl ?_
                  refine dku rfl rfl rfl rfl ?_
                  refine dk rfl rfl rfl rfl ?_
                  refine dk rfl rfl rfl rfl ?_
                  refine dku rfl rfl rfl rfl ?_
                  refine dku rfl rfl rfl rfl ?_
                  refine dku rfl rfl rfl rfl ?_
                  refine dku rfl rfl rfl rfl ?_
                  refine dku rfl rfl rfl rfl ?_
                  refine dku rfl rfl rfl rfl ?_
                  refine dku rfl rfl rfl rfl ?_
                  refine dk rfl rfl rfl rfl ?_
                  first | refine dq rfl rfl rfl (pkT rfl rfl) ?_ | refine dq rfl rfl rfl (pkF rfl rfl) ?_
                  refine TD.nil (nt ?_)
                  refine TC.condF rfl ?_
                  refine TC.skip (nb (nt ?_))
                  refine TC.region ?_
                  refine q rfl rfl (mv (v := .int _ _) rfl) ?_
                  first | refine q rfl rfl (addI rfl rfl (by omega) (by omega)) ?_ | refine q rfl rfl (add rfl rfl rfl) ?_
                  refine q rfl rfl (asg (v := .int _ _) rfl) ?_
                  refine TL.nil (nt ?_)
                  exact ⟨rfl, (n + 1), (by omega), (by omega), ⟨rfl, rfl, rfl, rfl, rfl, trivial⟩, (by repeat (first | exact ent_nil _ | refine ent_take 0 rfl ?_ | refine ent_take 1 rfl ?_ | refine ent_take 2 rfl ?_ | refine ent_take 3 rfl ?_ | refine ent_take 4 rfl ?_ | refine ent_take 5 rfl ?_ | refine ent_take 6 rfl ?_ | refine ent_take 7 rfl ?_ | refine ent_take 8 rfl ?_ | refine ent_take 9 rfl ?_ | refine ent_take 10 rfl ?_ | refine ent_take 11 rfl ?_ | refine ent_take 12 rfl ?_))⟩
              · have hmn := of_decide_eq_false hmn
                refine dk rfl rfl rfl rfl ?_
                refine dk rfl rfl rfl rfl ?_
                refine dk rfl rfl rfl rfl ?_
                first | refine dq rfl rfl rfl (pkT rfl rfl) ?_ | refine dq rfl rfl rfl (pkF rfl rfl) ?_
                refine dq rfl rfl rfl (mv (v := .bool _) rfl) ?_
                refine TD.known 142 rfl (b' := false) rfl ?_
                refine dk rfl rfl rfl rfl ?_
                refine dk rfl rfl rfl rfl ?_
                refine dk rfl rfl rfl rfl ?_
                refine dku rfl rfl rfl rfl ?_
                refine dku rfl rfl rfl rfl ?_
                refine dku rfl rfl rfl rfl ?_
                refine dku rfl rfl rfl rfl ?_
                refine dk rfl rfl rfl rfl ?_
                refine dk rfl rfl rfl rfl ?_
                refine dku rfl rfl rfl rfl ?_
                refine dku rfl rfl rfl rfl ?_
                refine dku rfl rfl rfl rfl ?_
                refine dku rfl rfl rfl rfl ?_
                refine dku rfl rfl rfl rfl ?_
                refine dku rfl rfl rfl rfl ?_
                refine dku rfl rfl rfl rfl ?_
                refine dk rfl rfl rfl rfl ?_
                first | refine dq rfl rfl rfl (pkT rfl rfl) ?_ | refine dq rfl rfl rfl (pkF rfl rfl) ?_
                refine TD.nil (nt ?_)
                refine TC.condF rfl ?_
                refine TC.skip (nb (nt ?_))
                refine TC.region ?_
                refine q rfl rfl (mv (v := .int _ _) rfl) ?_
                first | refine q rfl rfl (addI rfl rfl (by omega) (by omega)) ?_ | refine q rfl rfl (add rfl rfl rfl) ?_
                refine q rfl rfl (asg (v := .int _ _) rfl) ?_
                refine TL.nil (nt ?_)
                exact ⟨rfl, (n + 1), (by omega), (by omega), ⟨rfl, rfl, rfl, rfl, rfl, trivial⟩, (by repeat (first | exact ent_nil _ | refine ent_take 0 rfl ?_ | refine ent_take 1 rfl ?_ | refine ent_take 2 rfl ?_ | refine ent_take 3 rfl ?_ | refine ent_take 4 rfl ?_ | refine ent_take 5 rfl ?_ | refine ent_take 6 rfl ?_ | refine ent_take 7 rfl ?_ | refine ent_take 8 rfl ?_ | refine ent_take 9 rfl ?_ | refine ent_take 10 rfl ?_ | refine ent_take 11 rfl ?_ | refine ent_take 12 rfl ?_))⟩
          · have hz := of_decide_eq_false hz
            refine qs rfl rfl ?_
            refine qs rfl rfl ?_
            refine qs rfl rfl ?_
            first | refine q rfl rfl (pkT rfl rfl) ?_ | refine q rfl rfl (pkF rfl rfl) ?_
            refine TL.nil (nt ?_)
            refine TC.condF rfl ?_
            refine TC.exit (et (et (eb (nt ?_))))
            refine TC.seq ?_
            refine TC.seq ?_
            refine TC.region ?_
            refine q rfl rfl (mv (v := .int _ _) rfl) ?_
            refine q rfl rfl (mv (v := .int _ _) rfl) ?_
            refine q rfl rfl (eqI rfl rfl) ?_
            refine q rfl rfl (mv (v := .bool _) rfl) ?_
            have hin : ¬ (n : Int) ∈ B := fun h => by have := ((hk2.1 h).2).le hW; omega
            refine TL.known 119 rfl (c := false) (decide_eq_false (by omega)) ?_
            refine qs rfl rfl ?_
            refine qs rfl rfl ?_
            refine qs rfl rfl ?_
            refine qs rfl rfl ?_
            first | refine q rfl rfl (pkT rfl rfl) ?_ | refine q rfl rfl (pkF rfl rfl) ?_
            refine q rfl rfl (mv (v := .int _ _) rfl) ?_
            refine q rfl rfl (ixAl 70 3 1 rfl rfl rfl (by omega) (by omega)) ?_
            first | refine q rfl rfl (ld rfl rfl rfl) ?_ | refine q rfl rfl (ld rfl rfl (by rw [Nat.zero_add, Nat.mul_one]; exact hgn)) ?_ | refine q rfl rfl (ld rfl rfl (by rw [Nat.zero_add, Nat.mul_one]; exact hgp)) ?_ | refine q rfl rfl (ldS rfl rfl rfl) ?_
            refine q rfl rfl (gtr rfl rfl) ?_
            refine q rfl rfl (neBo rfl rfl rfl) ?_
            refine TL.nil (nt ?_)
            have hd : decide (0 < g n) = false := decide_eq_false (fun h => hin (hgq.1 h))
            rw [hd]
            refine TC.condF rfl ?_
            refine TC.skip (nt ?_)
            refine TC.seq ?_
            refine TC.region ?_
            refine q rfl rfl (mv (v := .pointer _) rfl) ?_
            refine q rfl rfl (mv (v := .int _ _) rfl) ?_
            refine e rfl ?_
            refine cl (fpar_ok a L l.length (n : Int)) rfl PkL.p trivial ?_
            intro _ _
            change TL _ _ _ _ _ _ _ _ (sepL [_, _, _])
            rw [hpt]
            refine q rfl rfl (asg (v := .int _ _) rfl) ?_
            refine TL.nil (nt ?_)
            refine TC.seq ?_
            refine TC.draw _ [] [(0, false), (1, false), (2, false), (3, false), (4, false), (5, false), (6, false), (7, false), (8, false), (9, false), (10, false), (11, false), (12, false), (13, false), (14, false), (15, false), (16, false), (17, false), (18, false), (19, false), (20, false), (21, false), (22, false), (23, false), (24, false), (25, false), (26, false), (27, false)] (by kernel_rfl) (by kernel_rfl) (ent.refl _) ?_
            refine dq rfl rfl rfl (mv (v := .int _ _) rfl) ?_
            refine dq rfl rfl rfl (ixAl 70 3 1 rfl rfl rfl (by omega) (by omega)) ?_
            first | refine dq rfl rfl rfl (ld rfl rfl rfl) ?_ | refine dq rfl rfl rfl (ld rfl rfl (by rw [Nat.zero_add, Nat.mul_one]; exact hgn)) ?_ | refine dq rfl rfl rfl (ld rfl rfl (by rw [Nat.zero_add, Nat.mul_one]; exact hgp)) ?_ | refine dq rfl rfl rfl (ldS rfl rfl rfl) ?_
            refine dq rfl rfl rfl (gtr rfl rfl) ?_
            refine dq rfl rfl rfl (mv (v := .bool _) rfl) ?_
            refine TD.known 137 rfl (b' := false) (decide_eq_false (by have := of_decide_eq_false hd; omega)) ?_
            refine dk rfl rfl rfl rfl ?_
            refine dk rfl rfl rfl rfl ?_
            refine dk rfl rfl rfl rfl ?_
            first | refine dq rfl rfl rfl (pkT rfl rfl) ?_ | refine dq rfl rfl rfl (pkF rfl rfl) ?_
            refine dq rfl rfl rfl (mv (v := .bool _) rfl) ?_
            refine TD.known 142 rfl (b' := false) rfl ?_
            refine dk rfl rfl rfl rfl ?_
            refine dk rfl rfl rfl rfl ?_
            refine dk rfl rfl rfl rfl ?_
            refine dku rfl rfl rfl rfl ?_
            refine dku rfl rfl rfl rfl ?_
            refine dku rfl rfl rfl rfl ?_
            refine dku rfl rfl rfl rfl ?_
            refine dk rfl rfl rfl rfl ?_
            refine dk rfl rfl rfl rfl ?_
            refine dku rfl rfl rfl rfl ?_
            refine dku rfl rfl rfl rfl ?_
            refine dku rfl rfl rfl rfl ?_
            refine dku rfl rfl rfl rfl ?_
            refine dku rfl rfl rfl rfl ?_
            refine dku rfl rfl rfl rfl ?_
            refine dku rfl rfl rfl rfl ?_
            refine dk rfl rfl rfl rfl ?_
            first | refine dq rfl rfl rfl (pkT rfl rfl) ?_ | refine dq rfl rfl rfl (pkF rfl rfl) ?_
            refine TD.nil (nt ?_)
            refine TC.condF rfl ?_
            refine TC.skip (nb (nt ?_))
            refine TC.region ?_
            refine q rfl rfl (mv (v := .int _ _) rfl) ?_
            first | refine q rfl rfl (addI rfl rfl (by omega) (by omega)) ?_ | refine q rfl rfl (add rfl rfl rfl) ?_
            refine q rfl rfl (asg (v := .int _ _) rfl) ?_
            refine TL.nil (nt ?_)
            exact ⟨rfl, (n + 1), (by omega), (by omega), ⟨rfl, rfl, rfl, rfl, rfl, trivial⟩, (by repeat (first | exact ent_nil _ | refine ent_take 0 rfl ?_ | refine ent_take 1 rfl ?_ | refine ent_take 2 rfl ?_ | refine ent_take 3 rfl ?_ | refine ent_take 4 rfl ?_ | refine ent_take 5 rfl ?_ | refine ent_take 6 rfl ?_ | refine ent_take 7 rfl ?_ | refine ent_take 8 rfl ?_ | refine ent_take 9 rfl ?_ | refine ent_take 10 rfl ?_ | refine ent_take 11 rfl ?_ | refine ent_take 12 rfl ?_))⟩
        · refine TC.exit (et (et (eb (nt ?_))))
          refine TC.seq ?_
          refine TC.region ?_
          refine q rfl rfl (mv (v := .pointer _) rfl) ?_
          refine e rfl ?_
          refine cl (fbelow_ok a L l.length 0 (by omega)) rfl PkL.p trivial ?_
          intro y9 _
          change TL _ _ _ _ _ _ _ _ (sepL [_, _, _, _])
          rw [hb0]
          refine q rfl rfl (len 3 1 rfl rfl) ?_
          refine q rfl rfl (eqI rfl rfl) ?_
          refine q rfl rfl (asg (v := .bool _) rfl) ?_
          refine TL.nil (nt ?_)
          refine TC.ret ?_
          exact Ret.i () [_] ⟨rfl, trivial⟩ rfl trivial (ent_take 3 rfl (ent_nil _))

end Go.Proofs.Ytffoeolgjgpmjaa
