/-
  Proved here: what functions of this program compute, each as a contract over symbolic states, under the premises that each theorem names (most lines printed by a program of the prover).
-/
import Derived.Test.YtdfmfhcjnjfjbaaGreatThL
namespace Go.Proofs.YtdfmfhcjnjfjbaaGreat
open Go Go.QM
open Al (En hasA Nd clrA setA offA dueA restA leftA)
open Rd (hasS NdS addS RInv topS runS tickS yieldS rndS)
theorem take_fresh {b : List Int} (h : b.Nodup) {i : Nat} {x : Int} (hx : b[i]? = some x) : x ∉ b.take i := fun h2 => by
  obtain ⟨j, hj⟩ := List.getElem?_of_mem h2
  rw [List.getElem?_take] at hj
  split at hj
  · obtain ⟨a1, b1⟩ := List.getElem?_eq_some_iff.1 hj
    obtain ⟨a2, b2⟩ := List.getElem?_eq_some_iff.1 hx
    exact (List.pairwise_iff_getElem.1 h) j i a1 a2 (by omega) (by rw [b1, b2])
  · cases hj
def frs (s : MS) (y : Int) : List Int := (rowR s y).map (·.fr)
def Fr (s : MS) : Nat → List Int
  | 0 => []
  | n + 1 => Fr s n ++ frs s n
def Cl (s : MS) : Nat → List Int
  | 0 => []
  | n + 1 => Cl s n ++ if clR s n ≠ -1 then [clR s n] else []
theorem frs_in {s : MS} (h : WM s) {y : Int} {o : Off} (ho : o ∈ rowR s y) : y ∈ s.ids ∧ o.fr ∈ s.ids ∧ o.fr ≠ y ∧ s.st o.fr = 1 ∧ s.pn o.fr = y := by
  rw [rowR] at ho
  split at ho
  · rename_i hy; exact ⟨hy, h.row y hy o ho⟩
  · cases ho
theorem frs_mem {s : MS} (h : WM s) {y x : Int} : x ∈ frs s y ↔ x ∈ s.ids ∧ s.st x = 1 ∧ s.pn x = y := by
  constructor
  · intro hx
    obtain ⟨o, ho, rfl⟩ := List.mem_map.1 hx
    have := frs_in h ho
    exact ⟨this.2.1, this.2.2.2⟩
  · rintro ⟨h1, h2, rfl⟩
    obtain ⟨h3, o, h4, h5⟩ := h.snd x h1 h2
    exact List.mem_map.2 ⟨o, by rw [rowR, if_pos h3]; exact h4, h5⟩
theorem frs_nd {s : MS} (h : WM s) (y : Int) : (frs s y).Nodup := by
  rw [frs, rowR]; split
  · rename_i hy; exact h.nr y hy
  · simp
theorem Fr_mem {s : MS} (h : WM s) {x : Int} : ∀ {n : Nat}, x ∈ Fr s n ↔ x ∈ s.ids ∧ s.st x = 1 ∧ 0 ≤ s.pn x ∧ s.pn x < n
  | 0 => ⟨(fun h => by cases h), (fun h => by omega)⟩
  | n + 1 => by
    rw [Fr, List.mem_append, Fr_mem h, frs_mem h]
    constructor
    · rintro (h1 | h1)
      · exact ⟨h1.1, h1.2.1, by omega⟩
      · exact ⟨h1.1, h1.2.1, by omega⟩
    · rintro ⟨h1, h2, h3⟩
      by_cases e : s.pn x = (n : Int)
      · exact .inr ⟨h1, h2, e⟩
      · exact .inl ⟨h1, h2, by omega⟩
theorem clR_in {s : MS} (h : WM s) {y : Int} (hc : clR s y ≠ -1) : y ∈ s.ids ∧ clR s y ∈ s.ids ∧ clR s y ≠ y ∧ s.st (clR s y) = 3 ∧ s.pn (clR s y) = y := by
  rw [clR] at hc
  split at hc
  · rename_i hy
    rw [clR, if_pos hy]; exact ⟨hy, h.cal y hy hc⟩
  · exact absurd rfl hc
theorem Cl_mem {s : MS} (h : WM s) {x : Int} : ∀ {n : Nat}, x ∈ Cl s n ↔ x ∈ s.ids ∧ s.st x = 3 ∧ 0 ≤ s.pn x ∧ s.pn x < n
  | 0 => ⟨(fun h => by cases h), (fun h => by omega)⟩
  | n + 1 => by
    rw [Cl, List.mem_append, Cl_mem h]
    constructor
    · rintro (h1 | h1)
      · exact ⟨h1.1, h1.2.1, by omega⟩
      · split at h1
        · rename_i hc
          have := clR_in h hc
          rw [List.mem_singleton.1 h1]; exact ⟨this.2.1, this.2.2.2.1, by omega⟩
        · cases h1
    · rintro ⟨h1, h2, h3⟩
      by_cases e : s.pn x = (n : Int)
      · right
        obtain ⟨h4, h5⟩ := h.ask x h1 h2
        rw [e] at h4 h5
        have h6 : clR s n = x := by rw [clR, if_pos h4]; exact h5
        have := h.ge x h1
        rw [h6, if_pos (by omega)]; simp
      · exact .inl ⟨h1, h2, by omega⟩
def gO (Q : List Int) (v : Nat) : Value := .int .i64 (if (v : Int) ∈ Q then 1 else 0)
theorem gO_set {n : Nat} {Q Q' : List Int} {x : Int} (h0 : 0 ≤ x) (h1 : x < n) (hQ : ∀ y, y ∈ Q' ↔ y ∈ Q ∨ y = x) : splice x.toNat [.int .i64 (0 + 1)] (fl n (gO Q)) = fl n (gO Q') := by
  refine fl_set (by omega) ?_ fun u hu => ?_
  · rw [gO, if_pos ((hQ _).2 (.inr (by omega)))]; rfl
  · rw [gO, gO]
    by_cases hm : (u : Int) ∈ Q
    · rw [if_pos hm, if_pos ((hQ _).2 (.inl hm))]
    · rw [if_neg hm, if_neg (fun h => ((hQ _).1 h).elim hm (by omega))]
theorem gO_no {n : Nat} {Q : List Int} {x : Int} (h0 : 0 ≤ x) (h1 : x < n) (hx : x ∉ Q) : (fl n (gO Q))[x.toNat]? = some (.int .i64 0) := by
  rw [fl_get _ (by omega), gO, Int.toNat_of_nonneg h0, if_neg hx]
theorem gO_yes {n : Nat} {Q : List Int} {x : Int} (h0 : 0 ≤ x) (h1 : x < n) (hx : x ∈ Q) : (fl n (gO Q))[x.toNat]? = some (.int .i64 1) := by
  rw [fl_get _ (by omega), gO, Int.toNat_of_nonneg h0, if_pos hx]
theorem gO_ext {n : Nat} {Q Q' : List Int} (h : ∀ y, y ∈ Q ↔ y ∈ Q') : fl n (gO Q) = fl n (gO Q') := fl_congr fun v _ => by rw [gO, gO]; simp only [h]
def RQ (S : List Rd.Th) : Nat → List Int
  | 0 => []
  | n + 1 => RQ S n ++ Rd.rowA S n
theorem RQ_mem {S : List Rd.Th} {x : Int} : ∀ {n : Nat}, x ∈ RQ S n ↔ ∃ t ∈ S, t.id = x ∧ 0 ≤ t.prio ∧ t.prio < n
  | 0 => ⟨(fun h => by cases h), (fun ⟨t, _, _, h1, h2⟩ => by omega)⟩
  | n + 1 => by
    rw [RQ, List.mem_append, RQ_mem, Rd.rowA_mem]
    constructor
    · rintro (⟨t, h1, h2, h3, h4⟩ | ⟨t, h1, h2, h3⟩)
      · exact ⟨t, h1, h2, h3, by omega⟩
      · exact ⟨t, h1, h3, by omega, by omega⟩
    · rintro ⟨t, h1, h2, h3, h4⟩
      by_cases e : t.prio = (n : Int)
      · exact .inr ⟨t, h1, e, h2⟩
      · exact .inl ⟨t, h1, h2, h3, by omega⟩
theorem RQ_fresh {S : List Rd.Th} (hR : RInv S) {p k : Nat} {x : Int} (hx : (Rd.rowA S p)[k]? = some x) : x ∉ RQ S p ++ (Rd.rowA S p).take k := fun h => by
  rcases List.mem_append.1 h with h | h
  · obtain ⟨t, h1, h2, _, h4⟩ := RQ_mem.1 h
    obtain ⟨u, g1, g2, g3⟩ := Rd.rowA_mem.1 (List.mem_of_getElem? hx)
    have := hR.nd.inj h1 g1 (h2.trans g3.symm)
    subst this; omega
  · exact take_fresh (Rd.rowA_nd hR.nd p) hx h
theorem RQ_all {S : List Rd.Th} (hR : RInv S) {x : Int} : x ∈ RQ S 8 ↔ hasS S x := by
  rw [RQ_mem]
  constructor
  · rintro ⟨t, h1, h2, _⟩; exact ⟨t, h1, h2⟩
  · rintro ⟨t, h1, h2⟩
    have := (hR.rg t h1).2.1
    exact ⟨t, h1, h2, by omega, by omega⟩
theorem st_cases {T : TS} (hP : TP T []) (x : Int) : (x ∉ T.m.ids ∧ stT T x = -1) ∨ (x ∈ T.m.ids ∧ T.on x = true ∧ stT T x = T.m.st x) ∨ (x ∈ T.m.ids ∧ T.on x ≠ true ∧ stT T x = 4 ∧ T.m.st x = 0) := by
  rw [stT]
  by_cases h : x ∈ T.m.ids
  · rw [if_pos h]
    by_cases ho : T.on x = true
    · rw [if_pos ho]; exact .inr (.inl ⟨h, ho, rfl⟩)
    · rw [if_neg ho]; exact .inr (.inr ⟨h, ho, rfl, Decidable.byContradiction fun h2 => ho (hP.off x h h2)⟩)
  · rw [if_neg h]; exact .inl ⟨h, rfl⟩
theorem one_facts {T : TS} {n : Nat} (h8 : R8 T n) (x : Int) : (x ∈ RQ T.S 8 ↔ stT T x = 0) ∧ (x ∈ Fr T.m 8 ↔ stT T x = 1) ∧ (x ∈ Cl T.m 8 ↔ stT T x = 3) ∧ (¬ (1 ≤ stT T x ∧ stT T x ≤ 3) → leftA T.A T.now x = 0) := by
  have hP := h8.g.p
  have hW := hP.wm
  rw [RQ_all hP.rj, hP.rdy, Fr_mem hW, Cl_mem hW]
  have hpn : x ∈ T.m.ids → T.m.st x = 1 ∨ T.m.st x = 3 → 0 ≤ T.m.pn x ∧ T.m.pn x < 8 := fun h1 h2 => by
    have h3 : T.m.pn x ∈ T.m.ids := h2.elim (fun h => (hW.snd x h1 h).1) (fun h => (hW.ask x h1 h).1)
    have := h8.rg _ h3; omega
  have hal : ¬ (1 ≤ stT T x ∧ stT T x ≤ 3) → leftA T.A T.now x = 0 := fun hn => by
    refine Al.left_no (fun ha => hn ?_) T.now
    obtain ⟨h1, h2⟩ := hP.al x ha
    have h2 := h2.resolve_right List.not_mem_nil
    have h3 := hW.rg x h1
    rw [stT, if_pos h1, if_pos (hP.off x h1 h2)]; omega
  refine ⟨?_, ?_, ?_, hal⟩
  · rcases st_cases hP x with ⟨a1, a2⟩ | ⟨a1, a2, a3⟩ | ⟨a1, a2, a3, a4⟩
    · rw [a2]; exact ⟨fun h => absurd h.1.1 a1, fun h => by cases h⟩
    · rw [a3]; exact ⟨fun h => h.1.2.2, fun h => ⟨⟨a1, a2, h⟩, List.not_mem_nil⟩⟩
    · rw [a3]; exact ⟨fun h => absurd h.1.2.1 a2, fun h => by cases h⟩
  · rcases st_cases hP x with ⟨a1, a2⟩ | ⟨a1, a2, a3⟩ | ⟨a1, a2, a3, a4⟩
    · rw [a2]; exact ⟨fun h => absurd h.1 a1, fun h => by cases h⟩
    · rw [a3]; exact ⟨fun h => h.2.1, fun h => ⟨a1, h, hpn a1 (.inl h)⟩⟩
    · rw [a3, a4]; exact ⟨fun h => absurd h.2.1 (by decide), fun h => by cases h⟩
  · rcases st_cases hP x with ⟨a1, a2⟩ | ⟨a1, a2, a3⟩ | ⟨a1, a2, a3, a4⟩
    · rw [a2]; exact ⟨fun h => absurd h.1 a1, fun h => by cases h⟩
    · rw [a3]; exact ⟨fun h => h.2.1, fun h => ⟨a1, h, hpn a1 (.inr h)⟩⟩
    · rw [a3, a4]; exact ⟨fun h => absurd h.2.1 (by decide), fun h => by cases h⟩
theorem run_st {T : TS} (hP : TP T []) (h : runS T.S ≠ -1) : stT T (runS T.S) = 0 := by
  rw [runS] at h ⊢
  cases ht : topS T.S with
  | none => rw [ht] at h; exact absurd rfl h
  | some t =>
    dsimp only
    have h1 := ((hP.rdy t.id).1 ⟨t, (Rd.top_mem ht).1, rfl⟩).1
    rw [stT, if_pos h1.1, if_pos h1.2.1]; exact h1.2.2
theorem rowR_A {S : List Rd.Th} {p : Nat} (h : p < 8) : Rd.rowR S (p : Int) = Rd.rowA S p := by rw [Rd.rowR, if_pos (by omega), Int.toNat_natCast]

set_option maxRecDepth 4000 in
set_option maxHeartbeats 4000000 in
theorem tone_ok (ad : Option Addr) (l : List TAct) (cap : Nat) : FSpec Tryz.prog 4 [.slice ad l.length cap] (fun F => ∃ E, RdS F E ad (tactsC l)) [] (fun _ : Unit => .bool true) (fun _ => True) (fun _ => []) := by
  refine FSpec.intro (rs := [.tmp 2]) (by kernel_rfl) Tryz.func4 rfl Tryz.ntmps4 (by rfl) rfl ?_
  intro F ⟨E, hF⟩
  change TC _ _ _ _ _ _ _ (sepL [_])
  haveI : RdSI F ad E (tactsC l) := ⟨hF⟩
  have hll := tactsC_length l
  refine TC.seq ?_
  refine TC.region ?_
  refine q rfl rfl (asg (v := .bool _) rfl) ?_
  refine TL.nil (nt ?_)
  refine TC.seq ?_
  refine TC.seq ?_
  refine TC.region ?_
  refine e rfl ?_
  refine cl alive_ok rfl (picked_nil _) trivial ?_
  intro _ _
  change TL _ _ _ _ _ _ _ _ (sepL [_])
  first | refine q rfl rfl (notD rfl) ?_ | refine q rfl rfl (notB rfl) ?_
  refine TL.nil (nt ?_)
  refine TC.condF rfl ?_
  refine TC.skip (nt ?_)
  refine TC.seq ?_
  refine TC.seq ?_
  refine TC.region ?_
  refine q rfl rfl (mv (v := .slice _ _ _) rfl) ?_
  refine q rfl rfl (len 63 6 rfl rfl) ?_
  refine q rfl rfl (gtr rfl rfl) ?_
  refine TL.nil (nt ?_)
  first | refine TC.condD rfl (fun hbig => ?_) (fun hbig => ?_) | refine TC.cond rfl (fun hbig => ?_) (fun hbig => ?_)
  · refine TC.seq ?_
    refine TC.region ?_
    refine q rfl rfl (asg (v := .bool _) rfl) ?_
    refine TL.nil (nt ?_)
    refine TC.ret (rt ?_)
    exact Ret.i () [_] ⟨rfl, trivial⟩ rfl trivial (ent_take 0 rfl (ent_nil _))
  · refine TC.skip (nt ?_)
    refine TC.seq ?_
    refine TC.region ?_
    refine e rfl ?_
    refine cl begin_ok rfl (picked_nil _) trivial ?_
    intro a _
    change TL _ _ _ _ _ _ _ _ (sepL [_, _])
    refine q rfl rfl (asg (v := .pointer _) rfl) ?_
    refine TL.nil (nt ?_)
    refine TC.seq ?_
    refine TC.seq ?_
    refine TC.region ?_
    refine q rfl rfl (mv (v := .pointer _) rfl) ?_
    refine q rfl rfl (eqNil rfl rfl rfl) ?_
    refine TL.nil (nt ?_)
    refine TC.condF rfl ?_
    refine TC.skip (nt ?_)
    refine TC.seq ?_
    refine TC.seq ?_
    refine TC.region ?_
    refine q rfl rfl (asg (v := .int _ _) rfl) ?_
    refine TL.nil (nt ?_)
    refine TC.block ?_
    refine TC.loop (ι := Nat × TS) (fun u => u.1 ≤ l.length ∧ R8 u.2 (8 + 41 * u.1)) (fun u => [(0, .slice ad l.length cap), (3, .pointer (some ⟨a, 0, none⟩)), (4, .int .i64 ((u.1 : Nat) : Int))]) (fun u => sepL [isT a u.2, F]) (fun u => l.length - u.1) ⟨0, bT 8⟩ ⟨Nat.zero_le _, bT_8 8⟩ ⟨rfl, rfl, rfl, trivial⟩ (by repeat (first | exact ent_nil _ | refine ent_take 0 rfl ?_ | refine ent_take 1 rfl ?_ | refine ent_take 2 rfl ?_ | refine ent_take 3 rfl ?_ | refine ent_take 4 rfl ?_ | refine ent_take 5 rfl ?_ | refine ent_take 6 rfl ?_ | refine ent_take 7 rfl ?_ | refine ent_take 8 rfl ?_ | refine ent_take 9 rfl ?_ | refine ent_take 10 rfl ?_ | refine ent_take 11 rfl ?_ | refine ent_take 12 rfl ?_)) ?_
    rintro ⟨i, V⟩ ⟨hi, h8⟩ ρ0
    dsimp only [updL] at hi h8 ⊢
    refine TC.seq ?_
    refine TC.seq ?_
    refine TC.region ?_
    refine q rfl rfl (mv (v := .int _ _) rfl) ?_
    refine q rfl rfl (mv (v := .slice _ _ _) rfl) ?_
    refine q rfl rfl (len 63 6 rfl rfl) ?_
    refine q rfl rfl (lss rfl rfl) ?_
    refine TL.nil (nt ?_)
    first | refine TC.condD rfl (fun hlt => ?_) (fun hlt => ?_) | refine TC.cond rfl (fun hlt => ?_) (fun hlt => ?_)
    · have hlt2 : i < l.length := by omega
      obtain ⟨t, ht⟩ : ∃ t, l[i]? = some t := ⟨l[i], List.getElem?_eq_getElem hlt2⟩
      have hpos : 0 < (tactsC l).length := by omega
      refine TC.skip (nt ?_)
      refine TC.seq ?_
      refine TC.block ?_
      refine TC.region ?_
      refine q rfl rfl (mv (v := .pointer _) rfl) ?_
      refine q rfl rfl (mv (v := .slice _ _ _) rfl) ?_
      refine q rfl rfl (mv (v := .int _ _) rfl) ?_
      first | refine q rfl rfl (ixS 63 6 rfl rfl rfl (by omega) (by first | assumption | (simp [ints_length] <;> omega))) ?_ | refine q rfl rfl (ixJ 63 6 rfl rfl rfl (by omega) (by omega) (by first | assumption | (simp [ints_length] <;> omega))) ?_ | refine q rfl rfl (ix 63 6 rfl rfl rfl (by omega) (by omega) rfl) ?_
      first | refine q rfl rfl (ldN (vs := [_, _, _, _, _, _]) 6 rfl rfl rfl rfl) ?_ | refine q rfl rfl (ldSN (vs := [_, _, _, _, _, _]) 6 rfl rfl (flat_get_rec tactC_sz ht) rfl (by decide)) ?_ | refine q rfl rfl (ldSN (vs := [_, _, _, _, _, _]) 6 rfl rfl rfl rfl (by decide)) ?_
      refine e rfl ?_
      refine cl (play_ok a V (8 + 41 * i) h8 (by omega) t) rfl PkL.p trivial ?_
      intro y hy
      change TL _ _ _ _ _ _ _ _ (sepL [_, _])
      obtain ⟨V2, bb, oo⟩ := y
      obtain ⟨h9, _⟩ := hy
      dsimp only at h9 ⊢
      refine TL.nil (nb (nt ?_))
      refine TC.region ?_
      refine q rfl rfl (mv (v := .int _ _) rfl) ?_
      first | refine q rfl rfl (addI rfl rfl (by omega) (by omega)) ?_ | refine q rfl rfl (add rfl rfl rfl) ?_
      refine q rfl rfl (asg (v := .int _ _) rfl) ?_
      refine TL.nil (nt ?_)
      exact ⟨rfl, ⟨i + 1, V2⟩, ⟨by dsimp only; omega, h9.up (by dsimp only; omega)⟩, (by dsimp only; omega), ⟨rfl, rfl, rfl, trivial⟩, (by repeat (first | exact ent_nil _ | refine ent_take 0 rfl ?_ | refine ent_take 1 rfl ?_ | refine ent_take 2 rfl ?_ | refine ent_take 3 rfl ?_ | refine ent_take 4 rfl ?_ | refine ent_take 5 rfl ?_ | refine ent_take 6 rfl ?_ | refine ent_take 7 rfl ?_ | refine ent_take 8 rfl ?_ | refine ent_take 9 rfl ?_ | refine ent_take 10 rfl ?_ | refine ent_take 11 rfl ?_ | refine ent_take 12 rfl ?_))⟩
    · have h9 : R8 V 6000 := h8.up (by omega)
      clear h8 hlt hi
      have hg := h9.g
      have hP := hg.p
      have hW := hP.wm
      have hln := h9.len
      have hSl := hP.lenS
      have hpr := h9.rg
      refine TC.exit (et (et (eb (nt ?_))))
      refine TC.seq ?_
      refine TC.region ?_
      refine e rfl ?_
      refine al (l := [.int _ _, .int _ _, .int _ _, .int _ _, .int _ _, .int _ _, .int _ _, .int _ _]) rfl rfl ?_
      intro b1
      refine e rfl ?_
      refine al (l := [.int _ _, .int _ _, .int _ _, .int _ _, .int _ _, .int _ _, .int _ _, .int _ _]) rfl rfl ?_
      intro b2
      refine e rfl ?_
      refine al (l := [.int _ _, .int _ _, .int _ _, .int _ _, .int _ _, .int _ _, .int _ _, .int _ _]) rfl rfl ?_
      intro b3
      refine TL.nil (nt ?_)
      refine TC.seq ?_
      refine TC.seq ?_
      refine TC.region ?_
      refine q rfl rfl (asg (v := .int _ _) rfl) ?_
      refine TL.nil (nt ?_)
      refine TC.block ?_
      refine TC.loop (ι := Nat) (fun j => j ≤ 8) (fun j => [(3, .pointer (some ⟨a, 0, none⟩)), (5, .pointer (some ⟨b1, 0, none⟩)), (6, .pointer (some ⟨b2, 0, none⟩)), (7, .pointer (some ⟨b3, 0, none⟩)), (8, .int .i64 ((j : Nat) : Int))]) (fun j => sepL [isT a V, pts b1 72 (fl 8 (gO (RQ V.S j))), pts b2 72 (fl 8 (gO (Fr V.m j))), pts b3 72 (fl 8 (gO (Cl V.m j))), F]) (fun j => 8 - j) 0 (by decide) ⟨rfl, rfl, rfl, rfl, rfl, trivial⟩ (ent_take 3 rfl (ent_takeE 2 rfl (by kernel_rfl) (ent_takeE 1 rfl (by kernel_rfl) (ent_takeE 0 rfl (by kernel_rfl) (by repeat (first | exact ent_nil _ | refine ent_take 0 rfl ?_ | refine ent_take 1 rfl ?_ | refine ent_take 2 rfl ?_ | refine ent_take 3 rfl ?_ | refine ent_take 4 rfl ?_ | refine ent_take 5 rfl ?_ | refine ent_take 6 rfl ?_ | refine ent_take 7 rfl ?_ | refine ent_take 8 rfl ?_ | refine ent_take 9 rfl ?_ | refine ent_take 10 rfl ?_ | refine ent_take 11 rfl ?_ | refine ent_take 12 rfl ?_)))))) ?_
      rintro j hj ρ1
      dsimp only [updL] at hj ⊢
      refine TC.seq ?_
      refine TC.seq ?_
      refine TC.region ?_
      refine q rfl rfl (mv (v := .int _ _) rfl) ?_
      refine q rfl rfl (lss rfl rfl) ?_
      refine TL.nil (nt ?_)
      first | refine TC.condD rfl (fun hlj => ?_) (fun hlj => ?_) | refine TC.cond rfl (fun hlj => ?_) (fun hlj => ?_)
      · have hj8 : j < 8 := by omega
        have hrj := rowR_A (S := V.S) hj8
        have hrl := Rd.rowA_len V.S j
        have hil := ints_length (Rd.rowA V.S j)
        refine TC.skip (nt ?_)
        refine TC.seq ?_
        refine TC.block ?_
        refine TC.seq ?_
        refine TC.region ?_
        refine q rfl rfl (mv (v := .pointer _) rfl) ?_
        refine q rfl rfl (mv (v := .int _ _) rfl) ?_
        refine e rfl ?_
        refine cl (tready_ok a V hP (hg.tb (by omega)) j) rfl PkL.p trivial ?_
        intro yr _
        change TL _ _ _ _ _ _ _ _ (sepL [_, _, _, _, _, _])
        rw [hrj]
        refine q rfl rfl (asg (v := .slice _ _ _) rfl) ?_
        refine TL.nil (nt ?_)
        refine TC.seq ?_
        refine TC.seq ?_
        refine TC.region ?_
        refine q rfl rfl (asg (v := .int _ _) rfl) ?_
        refine TL.nil (nt ?_)
        refine TC.block ?_
        refine TC.loop (ι := Nat) (fun k => k ≤ (Rd.rowA V.S j).length) (fun k => [(3, .pointer (some ⟨a, 0, none⟩)), (5, .pointer (some ⟨b1, 0, none⟩)), (6, .pointer (some ⟨b2, 0, none⟩)), (7, .pointer (some ⟨b3, 0, none⟩)), (8, .int .i64 (j : Int)), (9, .slice yr.1 (Rd.rowA V.S j).length yr.2), (10, .int .i64 ((k : Nat) : Int))]) (fun k => sepL [isT a V, pts b1 72 (fl 8 (gO (RQ V.S j ++ (Rd.rowA V.S j).take k))), pts b2 72 (fl 8 (gO (Fr V.m j))), pts b3 72 (fl 8 (gO (Cl V.m j))), slc 3 1 yr.1 (Rd.rowA V.S j).length yr.2 (ints (Rd.rowA V.S j)), F]) (fun k => (Rd.rowA V.S j).length - k) 0 (Nat.zero_le _) ⟨rfl, rfl, rfl, rfl, rfl, rfl, rfl, trivial⟩ (ent_take 1 rfl (ent_takeE 1 rfl (congrArg (pts b1 72) (gO_ext (fun y => by simp))) (by repeat (first | exact ent_nil _ | refine ent_take 0 rfl ?_ | refine ent_take 1 rfl ?_ | refine ent_take 2 rfl ?_ | refine ent_take 3 rfl ?_ | refine ent_take 4 rfl ?_ | refine ent_take 5 rfl ?_ | refine ent_take 6 rfl ?_ | refine ent_take 7 rfl ?_ | refine ent_take 8 rfl ?_ | refine ent_take 9 rfl ?_ | refine ent_take 10 rfl ?_ | refine ent_take 11 rfl ?_ | refine ent_take 12 rfl ?_)))) ?_
        rintro k hk ρ2
        dsimp only [updL] at hk ⊢
        refine TC.seq ?_
        refine TC.seq ?_
        refine TC.region ?_
        refine q rfl rfl (mv (v := .int _ _) rfl) ?_
        refine q rfl rfl (mv (v := .slice _ _ _) rfl) ?_
        refine q rfl rfl (len 3 1 rfl rfl) ?_
        refine q rfl rfl (lss rfl rfl) ?_
        refine TL.nil (nt ?_)
        first | refine TC.condD rfl (fun hlk => ?_) (fun hlk => ?_) | refine TC.cond rfl (fun hlk => ?_) (fun hlk => ?_)
        · have hk2 : k < (Rd.rowA V.S j).length := by omega
          obtain ⟨z, hz⟩ : ∃ z, (Rd.rowA V.S j)[k]? = some z := ⟨_, List.getElem?_eq_getElem hk2⟩
          obtain ⟨tz, g1, g2, g3⟩ := Rd.rowA_mem.1 (List.mem_of_getElem? hz)
          have f5 := hpr z ((hP.rdy z).1 ⟨tz, g1, g3⟩).1.1
          have hpos2 : 0 < (ints (Rd.rowA V.S j)).length := by omega
          have hfr := RQ_fresh hP.rj hz
          have hQ : ∀ y, y ∈ RQ V.S j ++ (Rd.rowA V.S j).take (k + 1) ↔ y ∈ RQ V.S j ++ (Rd.rowA V.S j).take k ∨ y = z := fun y => by
            rw [List.take_add_one, hz]; simp [or_assoc]
          refine TC.skip (nt ?_)
          refine TC.seq ?_
          refine TC.block ?_
          refine TC.seq ?_
          refine TC.seq ?_
          refine TC.region ?_
          refine q rfl rfl (mv (v := .slice _ _ _) rfl) ?_
          refine q rfl rfl (mv (v := .int _ _) rfl) ?_
          first | refine q rfl rfl (ixS 3 1 rfl rfl rfl (by omega) (by first | assumption | (simp [ints_length] <;> omega))) ?_ | refine q rfl rfl (ixJ 3 1 rfl rfl rfl (by omega) (by omega) (by first | assumption | (simp [ints_length] <;> omega))) ?_ | refine q rfl rfl (ix 3 1 rfl rfl rfl (by omega) (by omega) rfl) ?_
          first | refine q rfl rfl (ld rfl rfl rfl) ?_ | refine q rfl rfl (ld rfl rfl (by rw [Nat.zero_add, Nat.mul_one]; exact gO_no (by omega) (by omega) hfr)) ?_ | refine q rfl rfl (ldS rfl rfl (ints_get hz)) ?_ | refine q rfl rfl (ldS rfl rfl rfl) ?_
          refine q rfl rfl (lss rfl rfl) ?_
          refine q rfl rfl (mv (v := .bool _) rfl) ?_
          refine TL.known 57 rfl (c := false) (decide_eq_false (by omega)) ?_
          refine qg rfl rfl rfl (mv (v := .slice _ _ _) rfl) ?_
          refine qg rfl rfl rfl (mv (v := .int _ _) rfl) ?_
          first | refine qg rfl rfl rfl (ixS 3 1 rfl rfl rfl (by omega) (by first | assumption | (simp [ints_length] <;> omega))) ?_ | refine qg rfl rfl rfl (ixJ 3 1 rfl rfl rfl (by omega) (by omega) (by first | assumption | (simp [ints_length] <;> omega))) ?_ | refine qg rfl rfl rfl (ix 3 1 rfl rfl rfl (by omega) (by omega) rfl) ?_
          first | refine qg rfl rfl rfl (ld rfl rfl rfl) ?_ | refine qg rfl rfl rfl (ld rfl rfl (by rw [Nat.zero_add, Nat.mul_one]; exact gO_no (by omega) (by omega) hfr)) ?_ | refine qg rfl rfl rfl (ldS rfl rfl (ints_get hz)) ?_ | refine qg rfl rfl rfl (ldS rfl rfl rfl) ?_
          refine qg rfl rfl rfl (gtr rfl rfl) ?_
          first | refine q rfl rfl (pkT (v := .bool _) rfl rfl) ?_ | refine q rfl rfl (pkF (v := .bool _) rfl rfl) ?_
          refine TL.nil (nt ?_)
          refine TC.condD rfl (fun hc1 => absurd hc1 (by omega)) (fun hc1 => ?_)
          refine TC.skip (nt ?_)
          refine TC.region ?_
          refine q rfl rfl (mv (v := .slice _ _ _) rfl) ?_
          refine q rfl rfl (mv (v := .int _ _) rfl) ?_
          first | refine q rfl rfl (ixS 3 1 rfl rfl rfl (by omega) (by first | assumption | (simp [ints_length] <;> omega))) ?_ | refine q rfl rfl (ixJ 3 1 rfl rfl rfl (by omega) (by omega) (by first | assumption | (simp [ints_length] <;> omega))) ?_ | refine q rfl rfl (ix 3 1 rfl rfl rfl (by omega) (by omega) rfl) ?_
          first | refine q rfl rfl (ld rfl rfl rfl) ?_ | refine q rfl rfl (ld rfl rfl (by rw [Nat.zero_add, Nat.mul_one]; exact gO_no (by omega) (by omega) hfr)) ?_ | refine q rfl rfl (ldS rfl rfl (ints_get hz)) ?_ | refine q rfl rfl (ldS rfl rfl rfl) ?_
          refine q rfl rfl (ixAl 8 3 1 rfl rfl rfl (by omega) (by omega)) ?_
          first | refine q rfl rfl (ld rfl rfl rfl) ?_ | refine q rfl rfl (ld rfl rfl (by rw [Nat.zero_add, Nat.mul_one]; exact gO_no (by omega) (by omega) hfr)) ?_ | refine q rfl rfl (ldS rfl rfl (ints_get hz)) ?_ | refine q rfl rfl (ldS rfl rfl rfl) ?_
          first | refine q rfl rfl (addI rfl rfl (by omega) (by omega)) ?_ | refine q rfl rfl (add rfl rfl rfl) ?_
          refine q rfl rfl (ixAl 8 3 1 rfl rfl rfl (by omega) (by omega)) ?_
          refine e0 ?_
          first | refine st (v := .int _ _) (vs := [_]) 1 rfl rfl rfl rfl rfl rfl (Nat.le_of_ble_eq_true rfl) rfl ?_ | refine st (v := .int _ _) (vs := [_]) 1 rfl rfl rfl rfl rfl rfl (by rw [fl_length]; simp <;> omega) ((congrArg (fun n => splice n [.int .i64 (0 + 1)] (fl 8 (gO (RQ V.S j ++ (Rd.rowA V.S j).take k)))) (by rw [Nat.zero_add, Nat.mul_one])).trans (gO_set (by omega) (by omega) hQ)) ?_
          refine TL.nil (nb (nt ?_))
          refine TC.region ?_
          refine q rfl rfl (mv (v := .int _ _) rfl) ?_
          first | refine q rfl rfl (addI rfl rfl (by omega) (by omega)) ?_ | refine q rfl rfl (add rfl rfl rfl) ?_
          refine q rfl rfl (asg (v := .int _ _) rfl) ?_
          refine TL.nil (nt ?_)
          exact ⟨rfl, (k + 1), (by omega), (by omega), ⟨rfl, rfl, rfl, rfl, rfl, rfl, rfl, trivial⟩, (by repeat (first | exact ent_nil _ | refine ent_take 0 rfl ?_ | refine ent_take 1 rfl ?_ | refine ent_take 2 rfl ?_ | refine ent_take 3 rfl ?_ | refine ent_take 4 rfl ?_ | refine ent_take 5 rfl ?_ | refine ent_take 6 rfl ?_ | refine ent_take 7 rfl ?_ | refine ent_take 8 rfl ?_ | refine ent_take 9 rfl ?_ | refine ent_take 10 rfl ?_ | refine ent_take 11 rfl ?_ | refine ent_take 12 rfl ?_))⟩
        · obtain rfl : k = (Rd.rowA V.S j).length := by omega
          rw [List.take_length, show RQ V.S j ++ Rd.rowA V.S j = RQ V.S (j + 1) from rfl]
          clear hlk hk
          have hrl2 := rowRlen hW (j : Int)
          refine TC.exit (et (et (eb (nt ?_))))
          refine TC.seq ?_
          refine TC.region ?_
          refine q rfl rfl (mv (v := .pointer _) rfl) ?_
          refine q rfl rfl (mv (v := .int _ _) rfl) ?_
          refine e rfl ?_
          refine cl (trow_ok a V hP (hg.tb (by omega)) j) rfl PkL.p trivial ?_
          intro y2 _
          change TL _ _ _ _ _ _ _ _ (sepL [_, _, _, _, _, _, _])
          refine q rfl rfl (asg (v := .slice _ _ _) rfl) ?_
          refine TL.nil (nt ?_)
          refine TC.seq ?_
          refine TC.seq ?_
          refine TC.region ?_
          refine q rfl rfl (asg (v := .int _ _) rfl) ?_
          refine TL.nil (nt ?_)
          refine TC.block ?_
          refine TC.loop (ι := Nat) (fun k => k ≤ (rowR V.m j).length) (fun k => [(3, .pointer (some ⟨a, 0, none⟩)), (5, .pointer (some ⟨b1, 0, none⟩)), (6, .pointer (some ⟨b2, 0, none⟩)), (7, .pointer (some ⟨b3, 0, none⟩)), (8, .int .i64 (j : Int)), (11, .slice y2.1 (rowR V.m j).length y2.2), (12, .int .i64 ((k : Nat) : Int))]) (fun k => sepL [isT a V, pts b1 72 (fl 8 (gO (RQ V.S (j + 1)))), pts b2 72 (fl 8 (gO (Fr V.m j ++ (frs V.m j).take k))), pts b3 72 (fl 8 (gO (Cl V.m j))), slc 26 3 y2.1 (rowR V.m j).length y2.2 (ofsC (rowR V.m j)), F]) (fun k => (rowR V.m j).length - k) 0 (Nat.zero_le _) ⟨rfl, rfl, rfl, rfl, rfl, rfl, rfl, trivial⟩ (ent_take 1 rfl (ent_take 1 rfl (ent_takeE 1 rfl (congrArg (pts b2 72) (gO_ext (fun y => by simp))) (by repeat (first | exact ent_nil _ | refine ent_take 0 rfl ?_ | refine ent_take 1 rfl ?_ | refine ent_take 2 rfl ?_ | refine ent_take 3 rfl ?_ | refine ent_take 4 rfl ?_ | refine ent_take 5 rfl ?_ | refine ent_take 6 rfl ?_ | refine ent_take 7 rfl ?_ | refine ent_take 8 rfl ?_ | refine ent_take 9 rfl ?_ | refine ent_take 10 rfl ?_ | refine ent_take 11 rfl ?_ | refine ent_take 12 rfl ?_))))) ?_
          rintro k hk ρ2
          dsimp only [updL] at hk ⊢
          refine TC.seq ?_
          refine TC.seq ?_
          refine TC.region ?_
          refine q rfl rfl (mv (v := .int _ _) rfl) ?_
          refine q rfl rfl (mv (v := .slice _ _ _) rfl) ?_
          refine q rfl rfl (len 26 3 rfl rfl) ?_
          refine q rfl rfl (lss rfl rfl) ?_
          refine TL.nil (nt ?_)
          first | refine TC.condD rfl (fun hlk => ?_) (fun hlk => ?_) | refine TC.cond rfl (fun hlk => ?_) (fun hlk => ?_)
          · have hk2 : k < (rowR V.m j).length := by omega
            obtain ⟨o, ho⟩ : ∃ o, (rowR V.m j)[k]? = some o := ⟨_, List.getElem?_eq_getElem hk2⟩
            obtain ⟨hji, f1, f2, f3, f4⟩ := frs_in hW (List.mem_of_getElem? ho)
            have f5 := hpr _ f1
            have hof : (frs V.m j)[k]? = some o.fr := by rw [frs, List.getElem?_map, ho]; rfl
            have hpos3 : 0 < (ofsC (rowR V.m j)).length := by rw [ofsC_length]; omega
            have hfr : o.fr ∉ Fr V.m j ++ (frs V.m j).take k := fun h => by
              rcases List.mem_append.1 h with h | h
              · have := (Fr_mem hW).1 h; omega
              · exact take_fresh (frs_nd hW j) hof h
            have hQ : ∀ y, y ∈ Fr V.m j ++ (frs V.m j).take (k + 1) ↔ y ∈ Fr V.m j ++ (frs V.m j).take k ∨ y = o.fr := fun y => by
              rw [List.take_add_one, hof]; simp [or_assoc]
            refine TC.skip (nt ?_)
            refine TC.seq ?_
            refine TC.block ?_
            refine TC.seq ?_
            refine TC.seq ?_
            refine TC.region ?_
            refine q rfl rfl (mv (v := .slice _ _ _) rfl) ?_
            refine q rfl rfl (mv (v := .int _ _) rfl) ?_
            first | refine q rfl rfl (ixS 26 3 rfl rfl rfl (by omega) (by first | assumption | (simp [ints_length] <;> omega))) ?_ | refine q rfl rfl (ixJ 26 3 rfl rfl rfl (by omega) (by omega) (by first | assumption | (simp [ints_length] <;> omega))) ?_ | refine q rfl rfl (ix 26 3 rfl rfl rfl (by omega) (by omega) rfl) ?_
            first | refine q rfl rfl (fa 0 rfl rfl) ?_ | refine q rfl rfl (faS 0 rfl rfl (by first | assumption | (simp [ints_length] <;> omega))) ?_
            first | refine q rfl rfl (ld rfl rfl rfl) ?_ | refine q rfl rfl (ld rfl rfl (by rw [Nat.zero_add, Nat.mul_one]; exact gO_no (by omega) (by omega) hfr)) ?_ | refine q rfl rfl (ldS rfl rfl (flat_ld ofC_sz ho 0 (by omega) rfl)) ?_ | refine q rfl rfl (ldS rfl rfl rfl) ?_
            refine q rfl rfl (lss rfl rfl) ?_
            refine q rfl rfl (mv (v := .bool _) rfl) ?_
            refine TL.known 87 rfl (c := false) (decide_eq_false (by omega)) ?_
            refine qg rfl rfl rfl (mv (v := .slice _ _ _) rfl) ?_
            refine qg rfl rfl rfl (mv (v := .int _ _) rfl) ?_
            first | refine qg rfl rfl rfl (ixS 26 3 rfl rfl rfl (by omega) (by first | assumption | (simp [ints_length] <;> omega))) ?_ | refine qg rfl rfl rfl (ixJ 26 3 rfl rfl rfl (by omega) (by omega) (by first | assumption | (simp [ints_length] <;> omega))) ?_ | refine qg rfl rfl rfl (ix 26 3 rfl rfl rfl (by omega) (by omega) rfl) ?_
            first | refine qg rfl rfl rfl (fa 0 rfl rfl) ?_ | refine qg rfl rfl rfl (faS 0 rfl rfl (by first | assumption | (simp [ints_length] <;> omega))) ?_
            first | refine qg rfl rfl rfl (ld rfl rfl rfl) ?_ | refine qg rfl rfl rfl (ld rfl rfl (by rw [Nat.zero_add, Nat.mul_one]; exact gO_no (by omega) (by omega) hfr)) ?_ | refine qg rfl rfl rfl (ldS rfl rfl (flat_ld ofC_sz ho 0 (by omega) rfl)) ?_ | refine qg rfl rfl rfl (ldS rfl rfl rfl) ?_
            refine qg rfl rfl rfl (gtr rfl rfl) ?_
            first | refine q rfl rfl (pkT (v := .bool _) rfl rfl) ?_ | refine q rfl rfl (pkF (v := .bool _) rfl rfl) ?_
            refine TL.nil (nt ?_)
            refine TC.condD rfl (fun hc2 => absurd hc2 (by omega)) (fun hc2 => ?_)
            refine TC.skip (nt ?_)
            refine TC.region ?_
            refine q rfl rfl (mv (v := .slice _ _ _) rfl) ?_
            refine q rfl rfl (mv (v := .int _ _) rfl) ?_
            first | refine q rfl rfl (ixS 26 3 rfl rfl rfl (by omega) (by first | assumption | (simp [ints_length] <;> omega))) ?_ | refine q rfl rfl (ixJ 26 3 rfl rfl rfl (by omega) (by omega) (by first | assumption | (simp [ints_length] <;> omega))) ?_ | refine q rfl rfl (ix 26 3 rfl rfl rfl (by omega) (by omega) rfl) ?_
            first | refine q rfl rfl (fa 0 rfl rfl) ?_ | refine q rfl rfl (faS 0 rfl rfl (by first | assumption | (simp [ints_length] <;> omega))) ?_
            first | refine q rfl rfl (ld rfl rfl rfl) ?_ | refine q rfl rfl (ld rfl rfl (by rw [Nat.zero_add, Nat.mul_one]; exact gO_no (by omega) (by omega) hfr)) ?_ | refine q rfl rfl (ldS rfl rfl (flat_ld ofC_sz ho 0 (by omega) rfl)) ?_ | refine q rfl rfl (ldS rfl rfl rfl) ?_
            refine q rfl rfl (ixAl 8 3 1 rfl rfl rfl (by omega) (by omega)) ?_
            first | refine q rfl rfl (ld rfl rfl rfl) ?_ | refine q rfl rfl (ld rfl rfl (by rw [Nat.zero_add, Nat.mul_one]; exact gO_no (by omega) (by omega) hfr)) ?_ | refine q rfl rfl (ldS rfl rfl (flat_ld ofC_sz ho 0 (by omega) rfl)) ?_ | refine q rfl rfl (ldS rfl rfl rfl) ?_
            first | refine q rfl rfl (addI rfl rfl (by omega) (by omega)) ?_ | refine q rfl rfl (add rfl rfl rfl) ?_
            refine q rfl rfl (ixAl 8 3 1 rfl rfl rfl (by omega) (by omega)) ?_
            refine e0 ?_
            first | refine st (v := .int _ _) (vs := [_]) 1 rfl rfl rfl rfl rfl rfl (Nat.le_of_ble_eq_true rfl) rfl ?_ | refine st (v := .int _ _) (vs := [_]) 1 rfl rfl rfl rfl rfl rfl (by rw [fl_length]; simp <;> omega) ((congrArg (fun n => splice n [.int .i64 (0 + 1)] (fl 8 (gO (Fr V.m j ++ (frs V.m j).take k)))) (by rw [Nat.zero_add, Nat.mul_one])).trans (gO_set (by omega) (by omega) hQ)) ?_
            refine TL.nil (nb (nt ?_))
            refine TC.region ?_
            refine q rfl rfl (mv (v := .int _ _) rfl) ?_
            first | refine q rfl rfl (addI rfl rfl (by omega) (by omega)) ?_ | refine q rfl rfl (add rfl rfl rfl) ?_
            refine q rfl rfl (asg (v := .int _ _) rfl) ?_
            refine TL.nil (nt ?_)
            exact ⟨rfl, (k + 1), (by omega), (by omega), ⟨rfl, rfl, rfl, rfl, rfl, rfl, rfl, trivial⟩, (by repeat (first | exact ent_nil _ | refine ent_take 0 rfl ?_ | refine ent_take 1 rfl ?_ | refine ent_take 2 rfl ?_ | refine ent_take 3 rfl ?_ | refine ent_take 4 rfl ?_ | refine ent_take 5 rfl ?_ | refine ent_take 6 rfl ?_ | refine ent_take 7 rfl ?_ | refine ent_take 8 rfl ?_ | refine ent_take 9 rfl ?_ | refine ent_take 10 rfl ?_ | refine ent_take 11 rfl ?_ | refine ent_take 12 rfl ?_))⟩
          · obtain rfl : k = (rowR V.m j).length := by omega
            have hQe : Fr V.m j ++ (frs V.m j).take (rowR V.m j).length = Fr V.m (j + 1) := by rw [Fr, List.take_of_length_le (by rw [frs, List.length_map]; exact Nat.le_refl _)]
            rw [hQe]
            clear hlk hk
            refine TC.exit (et (et (eb (nt ?_))))
            refine TC.seq ?_
            refine TC.region ?_
            refine q rfl rfl (mv (v := .pointer _) rfl) ?_
            refine q rfl rfl (mv (v := .int _ _) rfl) ?_
            refine e rfl ?_
            refine cl (tcaller_ok a V hP (hg.tb (by omega)) j) rfl PkL.p trivial ?_
            intro _ _
            change TL _ _ _ _ _ _ _ _ (sepL [_, _, _, _, _, _])
            rcases Decidable.em (clR V.m j = -1) with hc | hc
            · have hCe : Cl V.m (j + 1) = Cl V.m j := by rw [Cl, if_neg (fun h => h hc), List.append_nil]
              rw [hc]
              refine q rfl rfl (asg (v := .int _ _) rfl) ?_
              refine TL.nil (nt ?_)
              refine TC.seq ?_
              refine TC.seq ?_
              refine TC.region ?_
              refine q rfl rfl (mv (v := .int _ _) rfl) ?_
              refine q rfl rfl (gtr rfl rfl) ?_
              refine q rfl rfl (mv (v := .bool _) rfl) ?_
              refine TL.known 109 rfl (c := false) (by decide) ?_
              refine qg rfl rfl rfl (mv (v := .int _ _) rfl) ?_
              refine qg rfl rfl rfl (lss rfl rfl) ?_
              first | refine q rfl rfl (pkT (v := .bool _) rfl rfl) ?_ | refine q rfl rfl (pkF (v := .bool _) rfl rfl) ?_
              refine TL.nil (nt ?_)
              refine TC.condF rfl ?_
              refine TC.skip (nt ?_)
              refine TC.seq ?_
              refine TC.region ?_
              refine q rfl rfl (mv (v := .int _ _) rfl) ?_
              refine q rfl rfl (geq rfl rfl) ?_
              refine TL.nil (nt ?_)
              refine TC.condF rfl ?_
              refine TC.skip (nb (nt ?_))
              refine TC.region ?_
              refine q rfl rfl (mv (v := .int _ _) rfl) ?_
              first | refine q rfl rfl (addI rfl rfl (by omega) (by omega)) ?_ | refine q rfl rfl (add rfl rfl rfl) ?_
              refine q rfl rfl (asg (v := .int _ _) rfl) ?_
              refine TL.nil (nt ?_)
              exact ⟨rfl, (j + 1), (by omega), (by omega), ⟨rfl, rfl, rfl, rfl, rfl, trivial⟩, (by rw [hCe]; exact (by repeat (first | exact ent_nil _ | refine ent_take 0 rfl ?_ | refine ent_take 1 rfl ?_ | refine ent_take 2 rfl ?_ | refine ent_take 3 rfl ?_ | refine ent_take 4 rfl ?_ | refine ent_take 5 rfl ?_ | refine ent_take 6 rfl ?_ | refine ent_take 7 rfl ?_ | refine ent_take 8 rfl ?_ | refine ent_take 9 rfl ?_ | refine ent_take 10 rfl ?_ | refine ent_take 11 rfl ?_ | refine ent_take 12 rfl ?_)))⟩
            · obtain ⟨hji, f1, f2, f3, f4⟩ := clR_in hW hc
              have hCe : Cl V.m (j + 1) = Cl V.m j ++ [clR V.m j] := by rw [Cl, if_pos hc]
              generalize clR V.m j = cc at hc f1 f2 f3 f4 hCe ⊢
              have f5 := hpr _ f1
              have hfr : cc ∉ Cl V.m j := fun h => by have := (Cl_mem hW).1 h; omega
              have hQ : ∀ y, y ∈ Cl V.m (j + 1) ↔ y ∈ Cl V.m j ∨ y = cc := fun y => by rw [hCe]; simp
              refine q rfl rfl (asg (v := .int _ _) rfl) ?_
              refine TL.nil (nt ?_)
              refine TC.seq ?_
              refine TC.seq ?_
              refine TC.region ?_
              refine q rfl rfl (mv (v := .int _ _) rfl) ?_
              refine q rfl rfl (gtr rfl rfl) ?_
              refine q rfl rfl (mv (v := .bool _) rfl) ?_
              refine TL.known 109 rfl (c := false) (decide_eq_false (by omega)) ?_
              refine qg rfl rfl rfl (mv (v := .int _ _) rfl) ?_
              refine qg rfl rfl rfl (lss rfl rfl) ?_
              first | refine q rfl rfl (pkT (v := .bool _) rfl rfl) ?_ | refine q rfl rfl (pkF (v := .bool _) rfl rfl) ?_
              refine TL.nil (nt ?_)
              refine TC.condD rfl (fun hc3 => absurd hc3 (by omega)) (fun hc3 => ?_)
              refine TC.skip (nt ?_)
              refine TC.seq ?_
              refine TC.region ?_
              refine q rfl rfl (mv (v := .int _ _) rfl) ?_
              refine q rfl rfl (geq rfl rfl) ?_
              refine TL.nil (nt ?_)
              refine TC.condD rfl (fun hc4 => ?_) (fun hc4 => absurd (by omega) hc4)
              refine TC.region ?_
              refine q rfl rfl (mv (v := .int _ _) rfl) ?_
              refine q rfl rfl (ixAl 8 3 1 rfl rfl rfl (by omega) (by omega)) ?_
              first | refine q rfl rfl (ld rfl rfl rfl) ?_ | refine q rfl rfl (ld rfl rfl (by rw [Nat.zero_add, Nat.mul_one]; exact gO_no (by omega) (by omega) hfr)) ?_ | refine q rfl rfl (ldS rfl rfl rfl) ?_
              first | refine q rfl rfl (addI rfl rfl (by omega) (by omega)) ?_ | refine q rfl rfl (add rfl rfl rfl) ?_
              refine q rfl rfl (ixAl 8 3 1 rfl rfl rfl (by omega) (by omega)) ?_
              refine e0 ?_
              first | refine st (v := .int _ _) (vs := [_]) 1 rfl rfl rfl rfl rfl rfl (Nat.le_of_ble_eq_true rfl) rfl ?_ | refine st (v := .int _ _) (vs := [_]) 1 rfl rfl rfl rfl rfl rfl (by rw [fl_length]; simp <;> omega) ((congrArg (fun n => splice n [.int .i64 (0 + 1)] (fl 8 (gO (Cl V.m j)))) (by rw [Nat.zero_add, Nat.mul_one])).trans (gO_set (by omega) (by omega) hQ)) ?_
              refine TL.nil (nb (nt ?_))
              refine TC.region ?_
              refine q rfl rfl (mv (v := .int _ _) rfl) ?_
              first | refine q rfl rfl (addI rfl rfl (by omega) (by omega)) ?_ | refine q rfl rfl (add rfl rfl rfl) ?_
              refine q rfl rfl (asg (v := .int _ _) rfl) ?_
              refine TL.nil (nt ?_)
              exact ⟨rfl, (j + 1), (by omega), (by omega), ⟨rfl, rfl, rfl, rfl, rfl, trivial⟩, (by repeat (first | exact ent_nil _ | refine ent_take 0 rfl ?_ | refine ent_take 1 rfl ?_ | refine ent_take 2 rfl ?_ | refine ent_take 3 rfl ?_ | refine ent_take 4 rfl ?_ | refine ent_take 5 rfl ?_ | refine ent_take 6 rfl ?_ | refine ent_take 7 rfl ?_ | refine ent_take 8 rfl ?_ | refine ent_take 9 rfl ?_ | refine ent_take 10 rfl ?_ | refine ent_take 11 rfl ?_ | refine ent_take 12 rfl ?_))⟩
      · obtain rfl : j = 8 := by omega
        refine TC.exit (et (et (eb (nt ?_))))
        refine TC.seq ?_
        refine TC.seq ?_
        refine TC.region ?_
        refine q rfl rfl (asg (v := .int _ _) rfl) ?_
        refine TL.nil (nt ?_)
        refine TC.block ?_
        refine TC.loop (ι := Nat) (fun v => v ≤ 8) (fun v => [(3, .pointer (some ⟨a, 0, none⟩)), (5, .pointer (some ⟨b1, 0, none⟩)), (6, .pointer (some ⟨b2, 0, none⟩)), (7, .pointer (some ⟨b3, 0, none⟩)), (14, .int .i64 ((v : Nat) : Int))]) (fun v => sepL [isT a V, pts b1 72 (fl 8 (gO (RQ V.S 8))), pts b2 72 (fl 8 (gO (Fr V.m 8))), pts b3 72 (fl 8 (gO (Cl V.m 8))), F]) (fun v => 8 - v) 0 (by decide) ⟨rfl, rfl, rfl, rfl, rfl, trivial⟩ (by repeat (first | exact ent_nil _ | refine ent_take 0 rfl ?_ | refine ent_take 1 rfl ?_ | refine ent_take 2 rfl ?_ | refine ent_take 3 rfl ?_ | refine ent_take 4 rfl ?_ | refine ent_take 5 rfl ?_ | refine ent_take 6 rfl ?_ | refine ent_take 7 rfl ?_ | refine ent_take 8 rfl ?_ | refine ent_take 9 rfl ?_ | refine ent_take 10 rfl ?_ | refine ent_take 11 rfl ?_ | refine ent_take 12 rfl ?_)) ?_
        rintro v hv ρ3
        dsimp only [updL] at hv ⊢
        refine TC.seq ?_
        refine TC.seq ?_
        refine TC.region ?_
        refine q rfl rfl (mv (v := .int _ _) rfl) ?_
        refine q rfl rfl (lss rfl rfl) ?_
        refine TL.nil (nt ?_)
        first | refine TC.condD rfl (fun hlv => ?_) (fun hlv => ?_) | refine TC.cond rfl (fun hlv => ?_) (fun hlv => ?_)
        · have hv8 : v < 8 := by omega
          obtain ⟨q1, q2, q3, q4⟩ := one_facts h9 (v : Int)
          refine TC.skip (nt ?_)
          refine TC.seq ?_
          refine TC.block ?_
          refine TC.seq ?_
          refine TC.region ?_
          refine q rfl rfl (mv (v := .pointer _) rfl) ?_
          refine q rfl rfl (mv (v := .int _ _) rfl) ?_
          refine e rfl ?_
          refine cl (tstate_ok a V v) rfl PkL.p trivial ?_
          intro _ _
          change TL _ _ _ _ _ _ _ _ (sepL [_, _, _, _, _])
          generalize hs : stT V v = s at q1 q2 q3 q4 ⊢
          refine q rfl rfl (asg (v := .int _ _) rfl) ?_
          refine TL.nil (nt ?_)
          refine TC.seq ?_
          refine TC.region ?_
          refine q rfl rfl (asg (v := .int _ _) rfl) ?_
          refine q rfl rfl (asg (v := .int _ _) rfl) ?_
          refine q rfl rfl (asg (v := .int _ _) rfl) ?_
          refine TL.nil (nt ?_)
          refine TC.seq ?_
          refine TC.seq ?_
          refine TC.region ?_
          refine q rfl rfl (mv (v := .int _ _) rfl) ?_
          refine TL.nil (nt ?_)
          refine TC.block ?_
          refine TC.seq ?_
          refine TC.region ?_
          refine q rfl rfl (eqI rfl rfl) ?_
          refine q rfl rfl (asg (v := .bool _) rfl) ?_
          refine TL.nil (nt ?_)
          first | refine TC.condD rfl (fun s0 => ?_) (fun s0 => ?_) | refine TC.cond rfl (fun s0 => ?_) (fun s0 => ?_)
          · have hg1 := gO_yes (n := 8) (Q := (RQ V.S 8)) (x := (v : Int)) (by omega) (by omega) (q1.2 (by omega))
            have hg2 := gO_no (n := 8) (Q := (Fr V.m 8)) (x := (v : Int)) (by omega) (by omega) (fun h9 => absurd (q2.1 h9) (by omega))
            have hg3 := gO_no (n := 8) (Q := (Cl V.m 8)) (x := (v : Int)) (by omega) (by omega) (fun h9 => absurd (q3.1 h9) (by omega))
            rw [Int.toNat_natCast] at hg1 hg2 hg3
            refine TC.region ?_
            refine q rfl rfl (asg (v := .int _ _) rfl) ?_
            refine TL.nil (nb (nt ?_))
            refine TC.seq ?_
            refine TC.region ?_
            refine q rfl rfl (mv (v := .int _ _) rfl) ?_
            refine q rfl rfl (ixAl 8 3 1 rfl rfl rfl (by omega) (by omega)) ?_
            first | refine q rfl rfl (ld rfl rfl rfl) ?_ | refine q rfl rfl (ld rfl rfl (by rw [Nat.zero_add, Nat.mul_one, Int.toNat_natCast]; exact hg1)) ?_ | refine q rfl rfl (ld rfl rfl (by rw [Nat.zero_add, Nat.mul_one, Int.toNat_natCast]; exact hg2)) ?_ | refine q rfl rfl (ld rfl rfl (by rw [Nat.zero_add, Nat.mul_one, Int.toNat_natCast]; exact hg3)) ?_ | refine q rfl rfl (ldS rfl rfl rfl) ?_
            refine q rfl rfl (mv (v := .int _ _) rfl) ?_
            refine q rfl rfl (neI rfl rfl) ?_
            refine q rfl rfl (mv (v := .bool _) rfl) ?_
            refine TL.known 139 rfl (c := false) (by decide) ?_
            refine qg rfl rfl rfl (mv (v := .int _ _) rfl) ?_
            refine qg rfl rfl rfl (ixAl 8 3 1 rfl rfl rfl (by omega) (by omega)) ?_
            first | refine qg rfl rfl rfl (ld rfl rfl rfl) ?_ | refine qg rfl rfl rfl (ld rfl rfl (by rw [Nat.zero_add, Nat.mul_one, Int.toNat_natCast]; exact hg1)) ?_ | refine qg rfl rfl rfl (ld rfl rfl (by rw [Nat.zero_add, Nat.mul_one, Int.toNat_natCast]; exact hg2)) ?_ | refine qg rfl rfl rfl (ld rfl rfl (by rw [Nat.zero_add, Nat.mul_one, Int.toNat_natCast]; exact hg3)) ?_ | refine qg rfl rfl rfl (ldS rfl rfl rfl) ?_
            refine qg rfl rfl rfl (mv (v := .int _ _) rfl) ?_
            refine qg rfl rfl rfl (neI rfl rfl) ?_
            first | refine q rfl rfl (pkT (v := .bool _) rfl rfl) ?_ | refine q rfl rfl (pkF (v := .bool _) rfl rfl) ?_
            refine q rfl rfl (mv (v := .bool _) rfl) ?_
            refine TL.known 146 rfl (c := false) (by decide) ?_
            refine qg rfl rfl rfl (mv (v := .int _ _) rfl) ?_
            refine qg rfl rfl rfl (ixAl 8 3 1 rfl rfl rfl (by omega) (by omega)) ?_
            first | refine qg rfl rfl rfl (ld rfl rfl rfl) ?_ | refine qg rfl rfl rfl (ld rfl rfl (by rw [Nat.zero_add, Nat.mul_one, Int.toNat_natCast]; exact hg1)) ?_ | refine qg rfl rfl rfl (ld rfl rfl (by rw [Nat.zero_add, Nat.mul_one, Int.toNat_natCast]; exact hg2)) ?_ | refine qg rfl rfl rfl (ld rfl rfl (by rw [Nat.zero_add, Nat.mul_one, Int.toNat_natCast]; exact hg3)) ?_ | refine qg rfl rfl rfl (ldS rfl rfl rfl) ?_
            refine qg rfl rfl rfl (mv (v := .int _ _) rfl) ?_
            refine qg rfl rfl rfl (neI rfl rfl) ?_
            first | refine q rfl rfl (pkT (v := .bool _) rfl rfl) ?_ | refine q rfl rfl (pkF (v := .bool _) rfl rfl) ?_
            refine q rfl rfl (mv (v := .bool _) rfl) ?_
            refine TL.known 153 rfl (c := false) (by decide) ?_
            refine qg rfl rfl rfl (mv (v := .pointer _) rfl) ?_
            refine qg rfl rfl rfl (mv (v := .int _ _) rfl) ?_
            refine eg rfl rfl ?_
            refine cl (tleft_ok a V hP (hg.tb (by omega)) v) rfl PkL.p trivial ?_
            intro _ _
            change TL _ _ _ _ _ _ _ _ (sepL [_, _, _, _, _])
            refine qg rfl rfl rfl (neI rfl rfl) ?_
            refine qg rfl rfl rfl (mv (v := .bool _) rfl) ?_
            refine TL.split 158 rfl (fun hl => ?_) (fun hl => ?_)
            · have hl := of_decide_eq_true hl
              have h13 : 1 ≤ s ∧ s ≤ 3 := Decidable.byContradiction fun h => hl (q4 h)
              refine qg rfl rfl rfl (mv (v := .int _ _) rfl) ?_
              refine qg rfl rfl rfl (lss rfl rfl) ?_
              refine qg rfl rfl rfl (mv (v := .bool _) rfl) ?_
              refine TL.known 161 rfl (c := false) (decide_eq_false (by omega)) ?_
              refine qg rfl rfl rfl (mv (v := .int _ _) rfl) ?_
              refine qg rfl rfl rfl (gtr rfl rfl) ?_
              first | refine qg rfl rfl rfl (pkT (v := .bool _) rfl rfl) ?_ | refine qg rfl rfl rfl (pkF (v := .bool _) rfl rfl) ?_
              first | refine qg rfl rfl rfl (pkT (v := .bool _) rfl rfl) ?_ | refine qg rfl rfl rfl (pkF (v := .bool _) rfl rfl) ?_
              first | refine q rfl rfl (pkT (v := .bool _) rfl rfl) ?_ | refine q rfl rfl (pkF (v := .bool _) rfl rfl) ?_
              refine TL.nil (nt ?_)
              refine TC.condD rfl (fun hc5 => absurd hc5 (by omega)) (fun hc5 => ?_)
              refine TC.skip (nb (nt ?_))
              refine TC.region ?_
              refine q rfl rfl (mv (v := .int _ _) rfl) ?_
              first | refine q rfl rfl (addI rfl rfl (by omega) (by omega)) ?_ | refine q rfl rfl (add rfl rfl rfl) ?_
              refine q rfl rfl (asg (v := .int _ _) rfl) ?_
              refine TL.nil (nt ?_)
              exact ⟨rfl, (v + 1), (by omega), (by omega), ⟨rfl, rfl, rfl, rfl, rfl, trivial⟩, (by repeat (first | exact ent_nil _ | refine ent_take 0 rfl ?_ | refine ent_take 1 rfl ?_ | refine ent_take 2 rfl ?_ | refine ent_take 3 rfl ?_ | refine ent_take 4 rfl ?_ | refine ent_take 5 rfl ?_ | refine ent_take 6 rfl ?_ | refine ent_take 7 rfl ?_ | refine ent_take 8 rfl ?_ | refine ent_take 9 rfl ?_ | refine ent_take 10 rfl ?_ | refine ent_take 11 rfl ?_ | refine ent_take 12 rfl ?_))⟩
            · have hl := of_decide_eq_false hl
              refine qs rfl rfl ?_
              refine qs rfl rfl ?_
              refine qs rfl rfl ?_
              refine qsu rfl rfl ?_
              refine qsu rfl rfl ?_
              refine qs rfl rfl ?_
              first | refine qg rfl rfl rfl (pkT (v := .bool _) rfl rfl) ?_ | refine qg rfl rfl rfl (pkF (v := .bool _) rfl rfl) ?_
              first | refine q rfl rfl (pkT (v := .bool _) rfl rfl) ?_ | refine q rfl rfl (pkF (v := .bool _) rfl rfl) ?_
              refine TL.nil (nt ?_)
              refine TC.condF rfl ?_
              refine TC.skip (nb (nt ?_))
              refine TC.region ?_
              refine q rfl rfl (mv (v := .int _ _) rfl) ?_
              first | refine q rfl rfl (addI rfl rfl (by omega) (by omega)) ?_ | refine q rfl rfl (add rfl rfl rfl) ?_
              refine q rfl rfl (asg (v := .int _ _) rfl) ?_
              refine TL.nil (nt ?_)
              exact ⟨rfl, (v + 1), (by omega), (by omega), ⟨rfl, rfl, rfl, rfl, rfl, trivial⟩, (by repeat (first | exact ent_nil _ | refine ent_take 0 rfl ?_ | refine ent_take 1 rfl ?_ | refine ent_take 2 rfl ?_ | refine ent_take 3 rfl ?_ | refine ent_take 4 rfl ?_ | refine ent_take 5 rfl ?_ | refine ent_take 6 rfl ?_ | refine ent_take 7 rfl ?_ | refine ent_take 8 rfl ?_ | refine ent_take 9 rfl ?_ | refine ent_take 10 rfl ?_ | refine ent_take 11 rfl ?_ | refine ent_take 12 rfl ?_))⟩
          · refine TC.seq ?_
            refine TC.region ?_
            refine q rfl rfl (eqI rfl rfl) ?_
            refine q rfl rfl (asg (v := .bool _) rfl) ?_
            refine TL.nil (nt ?_)
            first | refine TC.condD rfl (fun s1 => ?_) (fun s1 => ?_) | refine TC.cond rfl (fun s1 => ?_) (fun s1 => ?_)
            · have hg1 := gO_no (n := 8) (Q := (RQ V.S 8)) (x := (v : Int)) (by omega) (by omega) (fun h9 => absurd (q1.1 h9) (by omega))
              have hg2 := gO_yes (n := 8) (Q := (Fr V.m 8)) (x := (v : Int)) (by omega) (by omega) (q2.2 (by omega))
              have hg3 := gO_no (n := 8) (Q := (Cl V.m 8)) (x := (v : Int)) (by omega) (by omega) (fun h9 => absurd (q3.1 h9) (by omega))
              rw [Int.toNat_natCast] at hg1 hg2 hg3
              refine TC.region ?_
              refine q rfl rfl (asg (v := .int _ _) rfl) ?_
              refine TL.nil (nb (nt ?_))
              refine TC.seq ?_
              refine TC.region ?_
              refine q rfl rfl (mv (v := .int _ _) rfl) ?_
              refine q rfl rfl (ixAl 8 3 1 rfl rfl rfl (by omega) (by omega)) ?_
              first | refine q rfl rfl (ld rfl rfl rfl) ?_ | refine q rfl rfl (ld rfl rfl (by rw [Nat.zero_add, Nat.mul_one, Int.toNat_natCast]; exact hg1)) ?_ | refine q rfl rfl (ld rfl rfl (by rw [Nat.zero_add, Nat.mul_one, Int.toNat_natCast]; exact hg2)) ?_ | refine q rfl rfl (ld rfl rfl (by rw [Nat.zero_add, Nat.mul_one, Int.toNat_natCast]; exact hg3)) ?_ | refine q rfl rfl (ldS rfl rfl rfl) ?_
              refine q rfl rfl (mv (v := .int _ _) rfl) ?_
              refine q rfl rfl (neI rfl rfl) ?_
              refine q rfl rfl (mv (v := .bool _) rfl) ?_
              refine TL.known 139 rfl (c := false) (by decide) ?_
              refine qg rfl rfl rfl (mv (v := .int _ _) rfl) ?_
              refine qg rfl rfl rfl (ixAl 8 3 1 rfl rfl rfl (by omega) (by omega)) ?_
              first | refine qg rfl rfl rfl (ld rfl rfl rfl) ?_ | refine qg rfl rfl rfl (ld rfl rfl (by rw [Nat.zero_add, Nat.mul_one, Int.toNat_natCast]; exact hg1)) ?_ | refine qg rfl rfl rfl (ld rfl rfl (by rw [Nat.zero_add, Nat.mul_one, Int.toNat_natCast]; exact hg2)) ?_ | refine qg rfl rfl rfl (ld rfl rfl (by rw [Nat.zero_add, Nat.mul_one, Int.toNat_natCast]; exact hg3)) ?_ | refine qg rfl rfl rfl (ldS rfl rfl rfl) ?_
              refine qg rfl rfl rfl (mv (v := .int _ _) rfl) ?_
              refine qg rfl rfl rfl (neI rfl rfl) ?_
              first | refine q rfl rfl (pkT (v := .bool _) rfl rfl) ?_ | refine q rfl rfl (pkF (v := .bool _) rfl rfl) ?_
              refine q rfl rfl (mv (v := .bool _) rfl) ?_
              refine TL.known 146 rfl (c := false) (by decide) ?_
              refine qg rfl rfl rfl (mv (v := .int _ _) rfl) ?_
              refine qg rfl rfl rfl (ixAl 8 3 1 rfl rfl rfl (by omega) (by omega)) ?_
              first | refine qg rfl rfl rfl (ld rfl rfl rfl) ?_ | refine qg rfl rfl rfl (ld rfl rfl (by rw [Nat.zero_add, Nat.mul_one, Int.toNat_natCast]; exact hg1)) ?_ | refine qg rfl rfl rfl (ld rfl rfl (by rw [Nat.zero_add, Nat.mul_one, Int.toNat_natCast]; exact hg2)) ?_ | refine qg rfl rfl rfl (ld rfl rfl (by rw [Nat.zero_add, Nat.mul_one, Int.toNat_natCast]; exact hg3)) ?_ | refine qg rfl rfl rfl (ldS rfl rfl rfl) ?_
              refine qg rfl rfl rfl (mv (v := .int _ _) rfl) ?_
              refine qg rfl rfl rfl (neI rfl rfl) ?_
              first | refine q rfl rfl (pkT (v := .bool _) rfl rfl) ?_ | refine q rfl rfl (pkF (v := .bool _) rfl rfl) ?_
              refine q rfl rfl (mv (v := .bool _) rfl) ?_
              refine TL.known 153 rfl (c := false) (by decide) ?_
              refine qg rfl rfl rfl (mv (v := .pointer _) rfl) ?_
              refine qg rfl rfl rfl (mv (v := .int _ _) rfl) ?_
              refine eg rfl rfl ?_
              refine cl (tleft_ok a V hP (hg.tb (by omega)) v) rfl PkL.p trivial ?_
              intro _ _
              change TL _ _ _ _ _ _ _ _ (sepL [_, _, _, _, _])
              refine qg rfl rfl rfl (neI rfl rfl) ?_
              refine qg rfl rfl rfl (mv (v := .bool _) rfl) ?_
              refine TL.split 158 rfl (fun hl => ?_) (fun hl => ?_)
              · have hl := of_decide_eq_true hl
                have h13 : 1 ≤ s ∧ s ≤ 3 := Decidable.byContradiction fun h => hl (q4 h)
                refine qg rfl rfl rfl (mv (v := .int _ _) rfl) ?_
                refine qg rfl rfl rfl (lss rfl rfl) ?_
                refine qg rfl rfl rfl (mv (v := .bool _) rfl) ?_
                refine TL.known 161 rfl (c := false) (decide_eq_false (by omega)) ?_
                refine qg rfl rfl rfl (mv (v := .int _ _) rfl) ?_
                refine qg rfl rfl rfl (gtr rfl rfl) ?_
                first | refine qg rfl rfl rfl (pkT (v := .bool _) rfl rfl) ?_ | refine qg rfl rfl rfl (pkF (v := .bool _) rfl rfl) ?_
                first | refine qg rfl rfl rfl (pkT (v := .bool _) rfl rfl) ?_ | refine qg rfl rfl rfl (pkF (v := .bool _) rfl rfl) ?_
                first | refine q rfl rfl (pkT (v := .bool _) rfl rfl) ?_ | refine q rfl rfl (pkF (v := .bool _) rfl rfl) ?_
                refine TL.nil (nt ?_)
                refine TC.condD rfl (fun hc6 => absurd hc6 (by omega)) (fun hc6 => ?_)
                refine TC.skip (nb (nt ?_))
                refine TC.region ?_
                refine q rfl rfl (mv (v := .int _ _) rfl) ?_
                first | refine q rfl rfl (addI rfl rfl (by omega) (by omega)) ?_ | refine q rfl rfl (add rfl rfl rfl) ?_
                refine q rfl rfl (asg (v := .int _ _) rfl) ?_
                refine TL.nil (nt ?_)
                exact ⟨rfl, (v + 1), (by omega), (by omega), ⟨rfl, rfl, rfl, rfl, rfl, trivial⟩, (by repeat (first | exact ent_nil _ | refine ent_take 0 rfl ?_ | refine ent_take 1 rfl ?_ | refine ent_take 2 rfl ?_ | refine ent_take 3 rfl ?_ | refine ent_take 4 rfl ?_ | refine ent_take 5 rfl ?_ | refine ent_take 6 rfl ?_ | refine ent_take 7 rfl ?_ | refine ent_take 8 rfl ?_ | refine ent_take 9 rfl ?_ | refine ent_take 10 rfl ?_ | refine ent_take 11 rfl ?_ | refine ent_take 12 rfl ?_))⟩
              · have hl := of_decide_eq_false hl
                refine qs rfl rfl ?_
                refine qs rfl rfl ?_
                refine qs rfl rfl ?_
                refine qsu rfl rfl ?_
                refine qsu rfl rfl ?_
                refine qs rfl rfl ?_
                first | refine qg rfl rfl rfl (pkT (v := .bool _) rfl rfl) ?_ | refine qg rfl rfl rfl (pkF (v := .bool _) rfl rfl) ?_
                first | refine q rfl rfl (pkT (v := .bool _) rfl rfl) ?_ | refine q rfl rfl (pkF (v := .bool _) rfl rfl) ?_
                refine TL.nil (nt ?_)
                refine TC.condF rfl ?_
                refine TC.skip (nb (nt ?_))
                refine TC.region ?_
                refine q rfl rfl (mv (v := .int _ _) rfl) ?_
                first | refine q rfl rfl (addI rfl rfl (by omega) (by omega)) ?_ | refine q rfl rfl (add rfl rfl rfl) ?_
                refine q rfl rfl (asg (v := .int _ _) rfl) ?_
                refine TL.nil (nt ?_)
                exact ⟨rfl, (v + 1), (by omega), (by omega), ⟨rfl, rfl, rfl, rfl, rfl, trivial⟩, (by repeat (first | exact ent_nil _ | refine ent_take 0 rfl ?_ | refine ent_take 1 rfl ?_ | refine ent_take 2 rfl ?_ | refine ent_take 3 rfl ?_ | refine ent_take 4 rfl ?_ | refine ent_take 5 rfl ?_ | refine ent_take 6 rfl ?_ | refine ent_take 7 rfl ?_ | refine ent_take 8 rfl ?_ | refine ent_take 9 rfl ?_ | refine ent_take 10 rfl ?_ | refine ent_take 11 rfl ?_ | refine ent_take 12 rfl ?_))⟩
            · refine TC.seq ?_
              refine TC.region ?_
              refine q rfl rfl (eqI rfl rfl) ?_
              refine q rfl rfl (asg (v := .bool _) rfl) ?_
              refine TL.nil (nt ?_)
              first | refine TC.condD rfl (fun s3 => ?_) (fun s3 => ?_) | refine TC.cond rfl (fun s3 => ?_) (fun s3 => ?_)
              · have hg1 := gO_no (n := 8) (Q := (RQ V.S 8)) (x := (v : Int)) (by omega) (by omega) (fun h9 => absurd (q1.1 h9) (by omega))
                have hg2 := gO_no (n := 8) (Q := (Fr V.m 8)) (x := (v : Int)) (by omega) (by omega) (fun h9 => absurd (q2.1 h9) (by omega))
                have hg3 := gO_yes (n := 8) (Q := (Cl V.m 8)) (x := (v : Int)) (by omega) (by omega) (q3.2 (by omega))
                rw [Int.toNat_natCast] at hg1 hg2 hg3
                refine TC.region ?_
                refine q rfl rfl (asg (v := .int _ _) rfl) ?_
                refine TL.nil (nb (nt ?_))
                refine TC.seq ?_
                refine TC.region ?_
                refine q rfl rfl (mv (v := .int _ _) rfl) ?_
                refine q rfl rfl (ixAl 8 3 1 rfl rfl rfl (by omega) (by omega)) ?_
                first | refine q rfl rfl (ld rfl rfl rfl) ?_ | refine q rfl rfl (ld rfl rfl (by rw [Nat.zero_add, Nat.mul_one, Int.toNat_natCast]; exact hg1)) ?_ | refine q rfl rfl (ld rfl rfl (by rw [Nat.zero_add, Nat.mul_one, Int.toNat_natCast]; exact hg2)) ?_ | refine q rfl rfl (ld rfl rfl (by rw [Nat.zero_add, Nat.mul_one, Int.toNat_natCast]; exact hg3)) ?_ | refine q rfl rfl (ldS rfl rfl rfl) ?_
                refine q rfl rfl (mv (v := .int _ _) rfl) ?_
                refine q rfl rfl (neI rfl rfl) ?_
                refine q rfl rfl (mv (v := .bool _) rfl) ?_
                refine TL.known 139 rfl (c := false) (by decide) ?_
                refine qg rfl rfl rfl (mv (v := .int _ _) rfl) ?_
                refine qg rfl rfl rfl (ixAl 8 3 1 rfl rfl rfl (by omega) (by omega)) ?_
                first | refine qg rfl rfl rfl (ld rfl rfl rfl) ?_ | refine qg rfl rfl rfl (ld rfl rfl (by rw [Nat.zero_add, Nat.mul_one, Int.toNat_natCast]; exact hg1)) ?_ | refine qg rfl rfl rfl (ld rfl rfl (by rw [Nat.zero_add, Nat.mul_one, Int.toNat_natCast]; exact hg2)) ?_ | refine qg rfl rfl rfl (ld rfl rfl (by rw [Nat.zero_add, Nat.mul_one, Int.toNat_natCast]; exact hg3)) ?_ | refine qg rfl rfl rfl (ldS rfl rfl rfl) ?_
                refine qg rfl rfl rfl (mv (v := .int _ _) rfl) ?_
                refine qg rfl rfl rfl (neI rfl rfl) ?_
                first | refine q rfl rfl (pkT (v := .bool _) rfl rfl) ?_ | refine q rfl rfl (pkF (v := .bool _) rfl rfl) ?_
                refine q rfl rfl (mv (v := .bool _) rfl) ?_
                refine TL.known 146 rfl (c := false) (by decide) ?_
                refine qg rfl rfl rfl (mv (v := .int _ _) rfl) ?_
                refine qg rfl rfl rfl (ixAl 8 3 1 rfl rfl rfl (by omega) (by omega)) ?_
                first | refine qg rfl rfl rfl (ld rfl rfl rfl) ?_ | refine qg rfl rfl rfl (ld rfl rfl (by rw [Nat.zero_add, Nat.mul_one, Int.toNat_natCast]; exact hg1)) ?_ | refine qg rfl rfl rfl (ld rfl rfl (by rw [Nat.zero_add, Nat.mul_one, Int.toNat_natCast]; exact hg2)) ?_ | refine qg rfl rfl rfl (ld rfl rfl (by rw [Nat.zero_add, Nat.mul_one, Int.toNat_natCast]; exact hg3)) ?_ | refine qg rfl rfl rfl (ldS rfl rfl rfl) ?_
                refine qg rfl rfl rfl (mv (v := .int _ _) rfl) ?_
                refine qg rfl rfl rfl (neI rfl rfl) ?_
                first | refine q rfl rfl (pkT (v := .bool _) rfl rfl) ?_ | refine q rfl rfl (pkF (v := .bool _) rfl rfl) ?_
                refine q rfl rfl (mv (v := .bool _) rfl) ?_
                refine TL.known 153 rfl (c := false) (by decide) ?_
                refine qg rfl rfl rfl (mv (v := .pointer _) rfl) ?_
                refine qg rfl rfl rfl (mv (v := .int _ _) rfl) ?_
                refine eg rfl rfl ?_
                refine cl (tleft_ok a V hP (hg.tb (by omega)) v) rfl PkL.p trivial ?_
                intro _ _
                change TL _ _ _ _ _ _ _ _ (sepL [_, _, _, _, _])
                refine qg rfl rfl rfl (neI rfl rfl) ?_
                refine qg rfl rfl rfl (mv (v := .bool _) rfl) ?_
                refine TL.split 158 rfl (fun hl => ?_) (fun hl => ?_)
                · have hl := of_decide_eq_true hl
                  have h13 : 1 ≤ s ∧ s ≤ 3 := Decidable.byContradiction fun h => hl (q4 h)
                  refine qg rfl rfl rfl (mv (v := .int _ _) rfl) ?_
                  refine qg rfl rfl rfl (lss rfl rfl) ?_
                  refine qg rfl rfl rfl (mv (v := .bool _) rfl) ?_
                  refine TL.known 161 rfl (c := false) (decide_eq_false (by omega)) ?_
                  refine qg rfl rfl rfl (mv (v := .int _ _) rfl) ?_
                  refine qg rfl rfl rfl (gtr rfl rfl) ?_
                  first | refine qg rfl rfl rfl (pkT (v := .bool _) rfl rfl) ?_ | refine qg rfl rfl rfl (pkF (v := .bool _) rfl rfl) ?_
                  first | refine qg rfl rfl rfl (pkT (v := .bool _) rfl rfl) ?_ | refine qg rfl rfl rfl (pkF (v := .bool _) rfl rfl) ?_
                  first | refine q rfl rfl (pkT (v := .bool _) rfl rfl) ?_ | refine q rfl rfl (pkF (v := .bool _) rfl rfl) ?_
                  refine TL.nil (nt ?_)
                  refine TC.condD rfl (fun hc7 => absurd hc7 (by omega)) (fun hc7 => ?_)
                  refine TC.skip (nb (nt ?_))
                  refine TC.region ?_
                  refine q rfl rfl (mv (v := .int _ _) rfl) ?_
                  first | refine q rfl rfl (addI rfl rfl (by omega) (by omega)) ?_ | refine q rfl rfl (add rfl rfl rfl) ?_
                  refine q rfl rfl (asg (v := .int _ _) rfl) ?_
                  refine TL.nil (nt ?_)
                  exact ⟨rfl, (v + 1), (by omega), (by omega), ⟨rfl, rfl, rfl, rfl, rfl, trivial⟩, (by repeat (first | exact ent_nil _ | refine ent_take 0 rfl ?_ | refine ent_take 1 rfl ?_ | refine ent_take 2 rfl ?_ | refine ent_take 3 rfl ?_ | refine ent_take 4 rfl ?_ | refine ent_take 5 rfl ?_ | refine ent_take 6 rfl ?_ | refine ent_take 7 rfl ?_ | refine ent_take 8 rfl ?_ | refine ent_take 9 rfl ?_ | refine ent_take 10 rfl ?_ | refine ent_take 11 rfl ?_ | refine ent_take 12 rfl ?_))⟩
                · have hl := of_decide_eq_false hl
                  refine qs rfl rfl ?_
                  refine qs rfl rfl ?_
                  refine qs rfl rfl ?_
                  refine qsu rfl rfl ?_
                  refine qsu rfl rfl ?_
                  refine qs rfl rfl ?_
                  first | refine qg rfl rfl rfl (pkT (v := .bool _) rfl rfl) ?_ | refine qg rfl rfl rfl (pkF (v := .bool _) rfl rfl) ?_
                  first | refine q rfl rfl (pkT (v := .bool _) rfl rfl) ?_ | refine q rfl rfl (pkF (v := .bool _) rfl rfl) ?_
                  refine TL.nil (nt ?_)
                  refine TC.condF rfl ?_
                  refine TC.skip (nb (nt ?_))
                  refine TC.region ?_
                  refine q rfl rfl (mv (v := .int _ _) rfl) ?_
                  first | refine q rfl rfl (addI rfl rfl (by omega) (by omega)) ?_ | refine q rfl rfl (add rfl rfl rfl) ?_
                  refine q rfl rfl (asg (v := .int _ _) rfl) ?_
                  refine TL.nil (nt ?_)
                  exact ⟨rfl, (v + 1), (by omega), (by omega), ⟨rfl, rfl, rfl, rfl, rfl, trivial⟩, (by repeat (first | exact ent_nil _ | refine ent_take 0 rfl ?_ | refine ent_take 1 rfl ?_ | refine ent_take 2 rfl ?_ | refine ent_take 3 rfl ?_ | refine ent_take 4 rfl ?_ | refine ent_take 5 rfl ?_ | refine ent_take 6 rfl ?_ | refine ent_take 7 rfl ?_ | refine ent_take 8 rfl ?_ | refine ent_take 9 rfl ?_ | refine ent_take 10 rfl ?_ | refine ent_take 11 rfl ?_ | refine ent_take 12 rfl ?_))⟩
              · have hg1 := gO_no (n := 8) (Q := (RQ V.S 8)) (x := (v : Int)) (by omega) (by omega) (fun h9 => absurd (q1.1 h9) (by omega))
                have hg2 := gO_no (n := 8) (Q := (Fr V.m 8)) (x := (v : Int)) (by omega) (by omega) (fun h9 => absurd (q2.1 h9) (by omega))
                have hg3 := gO_no (n := 8) (Q := (Cl V.m 8)) (x := (v : Int)) (by omega) (by omega) (fun h9 => absurd (q3.1 h9) (by omega))
                rw [Int.toNat_natCast] at hg1 hg2 hg3
                refine TC.skip (nb (nt ?_))
                refine TC.seq ?_
                refine TC.region ?_
                refine q rfl rfl (mv (v := .int _ _) rfl) ?_
                refine q rfl rfl (ixAl 8 3 1 rfl rfl rfl (by omega) (by omega)) ?_
                first | refine q rfl rfl (ld rfl rfl rfl) ?_ | refine q rfl rfl (ld rfl rfl (by rw [Nat.zero_add, Nat.mul_one, Int.toNat_natCast]; exact hg1)) ?_ | refine q rfl rfl (ld rfl rfl (by rw [Nat.zero_add, Nat.mul_one, Int.toNat_natCast]; exact hg2)) ?_ | refine q rfl rfl (ld rfl rfl (by rw [Nat.zero_add, Nat.mul_one, Int.toNat_natCast]; exact hg3)) ?_ | refine q rfl rfl (ldS rfl rfl rfl) ?_
                refine q rfl rfl (mv (v := .int _ _) rfl) ?_
                refine q rfl rfl (neI rfl rfl) ?_
                refine q rfl rfl (mv (v := .bool _) rfl) ?_
                refine TL.known 139 rfl (c := false) (by decide) ?_
                refine qg rfl rfl rfl (mv (v := .int _ _) rfl) ?_
                refine qg rfl rfl rfl (ixAl 8 3 1 rfl rfl rfl (by omega) (by omega)) ?_
                first | refine qg rfl rfl rfl (ld rfl rfl rfl) ?_ | refine qg rfl rfl rfl (ld rfl rfl (by rw [Nat.zero_add, Nat.mul_one, Int.toNat_natCast]; exact hg1)) ?_ | refine qg rfl rfl rfl (ld rfl rfl (by rw [Nat.zero_add, Nat.mul_one, Int.toNat_natCast]; exact hg2)) ?_ | refine qg rfl rfl rfl (ld rfl rfl (by rw [Nat.zero_add, Nat.mul_one, Int.toNat_natCast]; exact hg3)) ?_ | refine qg rfl rfl rfl (ldS rfl rfl rfl) ?_
                refine qg rfl rfl rfl (mv (v := .int _ _) rfl) ?_
                refine qg rfl rfl rfl (neI rfl rfl) ?_
                first | refine q rfl rfl (pkT (v := .bool _) rfl rfl) ?_ | refine q rfl rfl (pkF (v := .bool _) rfl rfl) ?_
                refine q rfl rfl (mv (v := .bool _) rfl) ?_
                refine TL.known 146 rfl (c := false) (by decide) ?_
                refine qg rfl rfl rfl (mv (v := .int _ _) rfl) ?_
                refine qg rfl rfl rfl (ixAl 8 3 1 rfl rfl rfl (by omega) (by omega)) ?_
                first | refine qg rfl rfl rfl (ld rfl rfl rfl) ?_ | refine qg rfl rfl rfl (ld rfl rfl (by rw [Nat.zero_add, Nat.mul_one, Int.toNat_natCast]; exact hg1)) ?_ | refine qg rfl rfl rfl (ld rfl rfl (by rw [Nat.zero_add, Nat.mul_one, Int.toNat_natCast]; exact hg2)) ?_ | refine qg rfl rfl rfl (ld rfl rfl (by rw [Nat.zero_add, Nat.mul_one, Int.toNat_natCast]; exact hg3)) ?_ | refine qg rfl rfl rfl (ldS rfl rfl rfl) ?_
                refine qg rfl rfl rfl (mv (v := .int _ _) rfl) ?_
                refine qg rfl rfl rfl (neI rfl rfl) ?_
                first | refine q rfl rfl (pkT (v := .bool _) rfl rfl) ?_ | refine q rfl rfl (pkF (v := .bool _) rfl rfl) ?_
                refine q rfl rfl (mv (v := .bool _) rfl) ?_
                refine TL.known 153 rfl (c := false) (by decide) ?_
                refine qg rfl rfl rfl (mv (v := .pointer _) rfl) ?_
                refine qg rfl rfl rfl (mv (v := .int _ _) rfl) ?_
                refine eg rfl rfl ?_
                refine cl (tleft_ok a V hP (hg.tb (by omega)) v) rfl PkL.p trivial ?_
                intro _ _
                change TL _ _ _ _ _ _ _ _ (sepL [_, _, _, _, _])
                refine qg rfl rfl rfl (neI rfl rfl) ?_
                refine qg rfl rfl rfl (mv (v := .bool _) rfl) ?_
                refine TL.split 158 rfl (fun hl => ?_) (fun hl => ?_)
                · have hl := of_decide_eq_true hl
                  have h13 : 1 ≤ s ∧ s ≤ 3 := Decidable.byContradiction fun h => hl (q4 h)
                  refine qg rfl rfl rfl (mv (v := .int _ _) rfl) ?_
                  refine qg rfl rfl rfl (lss rfl rfl) ?_
                  refine qg rfl rfl rfl (mv (v := .bool _) rfl) ?_
                  refine TL.known 161 rfl (c := false) (decide_eq_false (by omega)) ?_
                  refine qg rfl rfl rfl (mv (v := .int _ _) rfl) ?_
                  refine qg rfl rfl rfl (gtr rfl rfl) ?_
                  first | refine qg rfl rfl rfl (pkT (v := .bool _) rfl rfl) ?_ | refine qg rfl rfl rfl (pkF (v := .bool _) rfl rfl) ?_
                  first | refine qg rfl rfl rfl (pkT (v := .bool _) rfl rfl) ?_ | refine qg rfl rfl rfl (pkF (v := .bool _) rfl rfl) ?_
                  first | refine q rfl rfl (pkT (v := .bool _) rfl rfl) ?_ | refine q rfl rfl (pkF (v := .bool _) rfl rfl) ?_
                  refine TL.nil (nt ?_)
                  refine TC.condD rfl (fun hc8 => absurd hc8 (by omega)) (fun hc8 => ?_)
                  refine TC.skip (nb (nt ?_))
                  refine TC.region ?_
                  refine q rfl rfl (mv (v := .int _ _) rfl) ?_
                  first | refine q rfl rfl (addI rfl rfl (by omega) (by omega)) ?_ | refine q rfl rfl (add rfl rfl rfl) ?_
                  refine q rfl rfl (asg (v := .int _ _) rfl) ?_
                  refine TL.nil (nt ?_)
                  exact ⟨rfl, (v + 1), (by omega), (by omega), ⟨rfl, rfl, rfl, rfl, rfl, trivial⟩, (by repeat (first | exact ent_nil _ | refine ent_take 0 rfl ?_ | refine ent_take 1 rfl ?_ | refine ent_take 2 rfl ?_ | refine ent_take 3 rfl ?_ | refine ent_take 4 rfl ?_ | refine ent_take 5 rfl ?_ | refine ent_take 6 rfl ?_ | refine ent_take 7 rfl ?_ | refine ent_take 8 rfl ?_ | refine ent_take 9 rfl ?_ | refine ent_take 10 rfl ?_ | refine ent_take 11 rfl ?_ | refine ent_take 12 rfl ?_))⟩
                · have hl := of_decide_eq_false hl
                  refine qs rfl rfl ?_
                  refine qs rfl rfl ?_
                  refine qs rfl rfl ?_
                  refine qsu rfl rfl ?_
                  refine qsu rfl rfl ?_
                  refine qs rfl rfl ?_
                  first | refine qg rfl rfl rfl (pkT (v := .bool _) rfl rfl) ?_ | refine qg rfl rfl rfl (pkF (v := .bool _) rfl rfl) ?_
                  first | refine q rfl rfl (pkT (v := .bool _) rfl rfl) ?_ | refine q rfl rfl (pkF (v := .bool _) rfl rfl) ?_
                  refine TL.nil (nt ?_)
                  refine TC.condF rfl ?_
                  refine TC.skip (nb (nt ?_))
                  refine TC.region ?_
                  refine q rfl rfl (mv (v := .int _ _) rfl) ?_
                  first | refine q rfl rfl (addI rfl rfl (by omega) (by omega)) ?_ | refine q rfl rfl (add rfl rfl rfl) ?_
                  refine q rfl rfl (asg (v := .int _ _) rfl) ?_
                  refine TL.nil (nt ?_)
                  exact ⟨rfl, (v + 1), (by omega), (by omega), ⟨rfl, rfl, rfl, rfl, rfl, trivial⟩, (by repeat (first | exact ent_nil _ | refine ent_take 0 rfl ?_ | refine ent_take 1 rfl ?_ | refine ent_take 2 rfl ?_ | refine ent_take 3 rfl ?_ | refine ent_take 4 rfl ?_ | refine ent_take 5 rfl ?_ | refine ent_take 6 rfl ?_ | refine ent_take 7 rfl ?_ | refine ent_take 8 rfl ?_ | refine ent_take 9 rfl ?_ | refine ent_take 10 rfl ?_ | refine ent_take 11 rfl ?_ | refine ent_take 12 rfl ?_))⟩
        · refine TC.exit (et (et (eb (nt ?_))))
          refine TC.seq ?_
          refine TC.region ?_
          refine q rfl rfl (mv (v := .pointer _) rfl) ?_
          refine e rfl ?_
          refine cl (trun_ok a V hP (hg.tb (by omega))) rfl PkL.p trivial ?_
          intro _ _
          change TL _ _ _ _ _ _ _ _ (sepL [_, _, _, _, _])
          refine q rfl rfl (eqI rfl rfl) ?_
          refine q rfl rfl (mv (v := .bool _) rfl) ?_
          refine TL.split 170 rfl (fun hr => ?_) (fun hr => ?_)
          · have hr := of_decide_eq_true hr
            refine qs rfl rfl ?_
            refine qs rfl rfl ?_
            refine qs rfl rfl ?_
            refine qs rfl rfl ?_
            refine qs rfl rfl ?_
            first | refine q rfl rfl (pkT (v := .bool _) rfl rfl) ?_ | refine q rfl rfl (pkF (v := .bool _) rfl rfl) ?_
            refine q rfl rfl (asg (v := .bool _) rfl) ?_
            refine TL.nil (nt ?_)
            refine TC.ret ?_
            exact Ret.i () [_] ⟨rfl, trivial⟩ rfl trivial (by repeat (first | exact ent_nil _ | refine ent_take 0 rfl ?_ | refine ent_take 1 rfl ?_ | refine ent_take 2 rfl ?_ | refine ent_take 3 rfl ?_ | refine ent_take 4 rfl ?_ | refine ent_take 5 rfl ?_ | refine ent_take 6 rfl ?_ | refine ent_take 7 rfl ?_ | refine ent_take 8 rfl ?_ | refine ent_take 9 rfl ?_ | refine ent_take 10 rfl ?_ | refine ent_take 11 rfl ?_ | refine ent_take 12 rfl ?_))
          · have hr := of_decide_eq_false hr
            refine qg rfl rfl rfl (mv (v := .pointer _) rfl) ?_
            refine qg rfl rfl rfl (mv (v := .pointer _) rfl) ?_
            refine eg rfl rfl ?_
            refine cl (trun_ok a V hP (hg.tb (by omega))) rfl PkL.p trivial ?_
            intro _ _
            change TL _ _ _ _ _ _ _ _ (sepL [_, _, _, _, _])
            refine eg rfl rfl ?_
            refine cl (tstate_ok a V (runS V.S)) rfl PkL.p trivial ?_
            intro _ _
            change TL _ _ _ _ _ _ _ _ (sepL [_, _, _, _, _])
            rw [run_st hP hr]
            refine qg rfl rfl rfl (eqI rfl rfl) ?_
            first | refine q rfl rfl (pkT (v := .bool _) rfl rfl) ?_ | refine q rfl rfl (pkF (v := .bool _) rfl rfl) ?_
            refine q rfl rfl (asg (v := .bool _) rfl) ?_
            refine TL.nil (nt ?_)
            refine TC.ret ?_
            exact Ret.i () [_] ⟨rfl, trivial⟩ rfl trivial (by repeat (first | exact ent_nil _ | refine ent_take 0 rfl ?_ | refine ent_take 1 rfl ?_ | refine ent_take 2 rfl ?_ | refine ent_take 3 rfl ?_ | refine ent_take 4 rfl ?_ | refine ent_take 5 rfl ?_ | refine ent_take 6 rfl ?_ | refine ent_take 7 rfl ?_ | refine ent_take 8 rfl ?_ | refine ent_take 9 rfl ?_ | refine ent_take 10 rfl ?_ | refine ent_take 11 rfl ?_ | refine ent_take 12 rfl ?_))

end Go.Proofs.YtdfmfhcjnjfjbaaGreat
