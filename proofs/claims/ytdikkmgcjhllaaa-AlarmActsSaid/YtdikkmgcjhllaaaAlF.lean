/-
  Proved here: what functions of this program compute, each as a contract over symbolic states, under the premises that each theorem names (most lines printed by a program of the prover).
-/
import Derived.Test.YtdikkmgcjhllaaaAlE
namespace Go.Proofs.Ytdikkmgcjhllaaa
open Go Go.QM
structure AAct where
  kind : Int
  id : Int
  n : Int
  ad : Option Addr
  cap : Nat
  xs : List Int
def aactC (t : AAct) : List Value := [.int .i64 t.kind, .int .i64 t.id, .int .i64 t.n, .slice t.ad t.xs.length t.cap]
def aactsC (l : List AAct) : List Value := l.flatMap aactC
theorem aactC_sz (t : AAct) : (aactC t).length = 4 := rfl
theorem aactsC_length (l : List AAct) : (aactsC l).length = l.length * 4 := flat_length aactC_sz l
theorem next_spec {Q : List En} (h : Q ≠ []) (now : Int) : (∃ e ∈ Q, e.at_ = now + nextA Q now) ∧ ∀ e ∈ Q, now + nextA Q now ≤ e.at_ := by
  have hm : Q.map (·.at_) ≠ [] := by simpa using h
  obtain ⟨h1, h2⟩ := minL_spec hm
  rw [nextA, if_neg h]
  constructor
  · obtain ⟨e, he, h3⟩ := List.mem_map.1 h1
    exact ⟨e, he, by omega⟩
  · intro e he
    have := h2 _ (List.mem_map_of_mem he)
    omega
theorem next_shift {Q : List En} (h : Q ≠ []) (now k : Int) : nextA Q (now + k) = nextA Q now - k := by
  rw [nextA, nextA, if_neg h, if_neg h]; omega

set_option maxHeartbeats 1000000 in
theorem nextlaw_ok (ad : Option Addr) (l : List AAct) (cap : Nat) (d t : Int) (hd : 0 ≤ d ∧ d ≤ 255) (ht : 0 ≤ t ∧ t ≤ 255) : FSpec Try.prog 4 [.slice ad l.length cap, .int .u8 d, .int .u8 t] (fun F => ∃ E, RdS F E ad (aactsC l)) [] (fun _ : Unit => .bool true) (fun _ => True) (fun _ => []) := by
  refine FSpec.intro (rs := [.tmp 6]) (by kernel_rfl) Try.func4 rfl Try.ntmps4 (by rfl) rfl ?_
  intro F ⟨E, hF⟩
  change TC _ _ _ _ _ _ _ (sepL [_])
  haveI : RdSI F ad E (aactsC l) := ⟨hF⟩
  refine TC.seq ?_
  refine TC.region ?_
  refine q rfl rfl (asg (v := .bool _) rfl) ?_
  refine TL.nil (nt ?_)
  refine TC.seq ?_
  refine TC.seq ?_
  refine TC.region ?_
  refine e rfl ?_
  refine cl alive_ok rfl (picked_nil _) trivial ?_
  intro _ _
  change TL _ _ _ _ _ _ _ _ (sepL [_])
  first | refine q rfl rfl (notD rfl) ?_ | refine q rfl rfl (notB rfl) ?_
  refine TL.nil (nt ?_)
  refine TC.condF rfl ?_
  refine TC.skip (nt ?_)
  refine TC.seq ?_
  refine TC.seq ?_
  refine TC.region ?_
  refine q rfl rfl (mv (v := .slice _ _ _) rfl) ?_
  refine q rfl rfl (len 36 4 rfl rfl) ?_
  refine q rfl rfl (gtr rfl rfl) ?_
  refine TL.nil (nt ?_)
  first | refine TC.condD rfl (fun hbig => ?_) (fun hbig => ?_) | refine TC.cond rfl (fun hbig => ?_) (fun hbig => ?_)
  · refine TC.seq ?_
    refine TC.region ?_
    refine q rfl rfl (asg (v := .bool _) rfl) ?_
    refine TL.nil (nt ?_)
    refine TC.ret (rt ?_)
    exact Ret.i () [_] ⟨rfl, trivial⟩ rfl trivial (ent_take 0 rfl (ent_nil _))
  · have hL : l.length ≤ 100 := by omega
    refine TC.skip (nt ?_)
    refine TC.seq ?_
    refine TC.region ?_
    refine e rfl ?_
    refine cl new_ok rfl (picked_nil _) trivial ?_
    intro a _
    change TL _ _ _ _ _ _ _ _ (sepL [_, _])
    refine q rfl rfl (asg (v := .pointer _) rfl) ?_
    refine TL.nil (nt ?_)
    refine TC.seq ?_
    refine TC.seq ?_
    refine TC.region ?_
    refine q rfl rfl (asg (v := .int _ _) rfl) ?_
    refine TL.nil (nt ?_)
    refine TC.block ?_
    refine TC.loop (ι := Nat × List En × Int × Int) (fun s => QI s.2.1 s.2.2.1 s.2.2.2 s.1 ∧ s.1 ≤ l.length) (fun s => [(0, .slice ad l.length cap), (1, .int .u8 d), (2, .int .u8 t), (7, .pointer (some ⟨a, 0, none⟩)), (8, .int .i64 ((s.1 : Nat) : Int))]) (fun s => sepL [isAl a s.2.2.1 s.2.2.2 s.2.1, F]) (fun s => l.length - s.1) ⟨0, [], 0, 0⟩ ⟨QI.start, Nat.zero_le _⟩ ⟨rfl, rfl, rfl, rfl, rfl, trivial⟩ (ent_take 0 rfl (ent_take 0 rfl (ent_nil _))) ?_
    rintro ⟨i, Q, now, tn⟩ ⟨hinv, hi⟩ ρ0
    dsimp only [updL] at hinv hi ⊢
    refine TC.seq ?_
    refine TC.seq ?_
    refine TC.region ?_
    refine q rfl rfl (mv (v := .int _ _) rfl) ?_
    refine q rfl rfl (mv (v := .slice _ _ _) rfl) ?_
    refine q rfl rfl (len 36 4 rfl rfl) ?_
    refine q rfl rfl (lss rfl rfl) ?_
    refine TL.nil (nt ?_)
    first | refine TC.condD rfl (fun hlt => ?_) (fun hlt => ?_) | refine TC.cond rfl (fun hlt => ?_) (fun hlt => ?_)
    · have hlt2 : i < l.length := by omega
      obtain ⟨x, hx⟩ : ∃ x, l[i]? = some x := ⟨l[i], List.getElem?_eq_getElem hlt2⟩
      have hpos : 0 < (aactsC l).length := by rw [aactsC_length]; omega
      have hbd := hinv.bd (by omega)
      refine TC.skip (nt ?_)
      refine TC.seq ?_
      refine TC.block ?_
      refine TC.seq ?_
      refine TC.region ?_
      refine q rfl rfl (mv (v := .slice _ _ _) rfl) ?_
      refine q rfl rfl (mv (v := .int _ _) rfl) ?_
      first | refine q rfl rfl (ixS 36 4 rfl rfl rfl (by omega) (by first | assumption | (simp [ints_length] <;> omega))) ?_ | refine q rfl rfl (ixJ 36 4 rfl rfl rfl (by omega) (by omega) (by first | assumption | (simp [ints_length] <;> omega))) ?_ | refine q rfl rfl (ix 36 4 rfl rfl rfl (by omega) (by omega) rfl) ?_
      first | refine q rfl rfl (ldN (vs := [_, _, _, _]) 4 rfl rfl rfl rfl) ?_ | refine q rfl rfl (ldSN (vs := [_, _, _, _]) 4 rfl rfl (flat_get_rec aactC_sz hx) rfl (by decide)) ?_ | refine q rfl rfl (ldSN (vs := [_, _, _, _]) 4 rfl rfl rfl rfl (by decide)) ?_
      refine e rfl ?_
      refine al (l := [.int _ _, .int _ _, .int _ _, .slice _ _ _]) rfl rfl ?_
      intro b1
      refine e0 ?_
      refine st (v := .agg #[_, _, _, _]) (vs := [_, _, _, _]) 4 rfl rfl rfl rfl rfl rfl (Nat.le_of_ble_eq_true rfl) rfl ?_
      refine TL.nil (nt ?_)
      refine TC.seq ?_
      refine TC.region ?_
      first | refine q rfl rfl (fa 0 rfl rfl) ?_ | refine q rfl rfl (faS 0 rfl rfl (by first | assumption | (simp [ints_length] <;> omega))) ?_
      first | refine q rfl rfl (ld rfl rfl rfl) ?_ | refine q rfl rfl (ldS rfl rfl (flat_get_rec aactC_sz hx)) ?_ | refine q rfl rfl (ldS rfl rfl rfl) ?_
      refine TL.nil (nt ?_)
      refine TC.block ?_
      refine TC.seq ?_
      refine TC.region ?_
      refine q rfl rfl (eqI rfl rfl) ?_
      refine q rfl rfl (asg (v := .bool _) rfl) ?_
      refine TL.nil (nt ?_)
      first | refine TC.condD rfl (fun hk => ?_) (fun hk => ?_) | refine TC.cond rfl (fun hk => ?_) (fun hk => ?_)
      · refine TC.region ?_
        refine q rfl rfl (mv (v := .pointer _) rfl) ?_
        first | refine q rfl rfl (fa 1 rfl rfl) ?_ | refine q rfl rfl (faS 1 rfl rfl (by first | assumption | (simp [ints_length] <;> omega))) ?_
        first | refine q rfl rfl (ld rfl rfl rfl) ?_ | refine q rfl rfl (ldS rfl rfl (flat_get_rec aactC_sz hx)) ?_ | refine q rfl rfl (ldS rfl rfl rfl) ?_
        first | refine q rfl rfl (fa 2 rfl rfl) ?_ | refine q rfl rfl (faS 2 rfl rfl (by first | assumption | (simp [ints_length] <;> omega))) ?_
        first | refine q rfl rfl (ld rfl rfl rfl) ?_ | refine q rfl rfl (ldS rfl rfl (flat_get_rec aactC_sz hx)) ?_ | refine q rfl rfl (ldS rfl rfl rfl) ?_
        refine e rfl ?_
        refine cl (set_ok a now tn Q hbd x.id x.n) rfl PkL.p trivial ?_
        intro _ _
        change TL _ _ _ _ _ _ _ _ (sepL [_, _, _])
        refine TL.nil (nb (nb (nt ?_)))
        refine TC.region ?_
        refine q rfl rfl (mv (v := .int _ _) rfl) ?_
        first | refine q rfl rfl (addI rfl rfl (by omega) (by omega)) ?_ | refine q rfl rfl (add rfl rfl rfl) ?_
        refine q rfl rfl (asg (v := .int _ _) rfl) ?_
        refine TL.nil (nt ?_)
        exact ⟨rfl, ⟨i + 1, _, now, _⟩, ⟨hinv.set x.id x.n, by dsimp only; omega⟩, (by dsimp only; omega), ⟨rfl, rfl, rfl, rfl, rfl, trivial⟩, (ent_take 0 rfl (ent_take 1 rfl (ent_nil _)))⟩
      · refine TC.seq ?_
        refine TC.region ?_
        refine q rfl rfl (eqI rfl rfl) ?_
        refine q rfl rfl (asg (v := .bool _) rfl) ?_
        refine TL.nil (nt ?_)
        first | refine TC.condD rfl (fun hk1 => ?_) (fun hk1 => ?_) | refine TC.cond rfl (fun hk1 => ?_) (fun hk1 => ?_)
        · refine TC.region ?_
          refine q rfl rfl (mv (v := .pointer _) rfl) ?_
          first | refine q rfl rfl (fa 1 rfl rfl) ?_ | refine q rfl rfl (faS 1 rfl rfl (by first | assumption | (simp [ints_length] <;> omega))) ?_
          first | refine q rfl rfl (ld rfl rfl rfl) ?_ | refine q rfl rfl (ldS rfl rfl (flat_get_rec aactC_sz hx)) ?_ | refine q rfl rfl (ldS rfl rfl rfl) ?_
          refine e rfl ?_
          refine bs (cs := [.int _ _]) rfl ?_
          intro b2
          refine e rfl ?_
          refine cl (clear_ok a now tn Q hbd _ _ [x.id] (by simp)) rfl PkL.p ⟨_, RdSI.rd⟩ ?_
          intro _ _
          change TL _ _ _ _ _ _ _ _ (sepL [_, _, _, _])
          refine TL.nil (nb (nb (nt ?_)))
          refine TC.region ?_
          refine q rfl rfl (mv (v := .int _ _) rfl) ?_
          first | refine q rfl rfl (addI rfl rfl (by omega) (by omega)) ?_ | refine q rfl rfl (add rfl rfl rfl) ?_
          refine q rfl rfl (asg (v := .int _ _) rfl) ?_
          refine TL.nil (nt ?_)
          exact ⟨rfl, ⟨i + 1, _, now, tn⟩, ⟨(hinv.clr [x.id]).next (by dsimp only; omega), by dsimp only; omega⟩, (by dsimp only; omega), ⟨rfl, rfl, rfl, rfl, rfl, trivial⟩, (ent_take 0 rfl (ent_take 2 rfl (ent_nil _)))⟩
        · refine TC.seq ?_
          refine TC.region ?_
          refine q rfl rfl (eqI rfl rfl) ?_
          refine q rfl rfl (asg (v := .bool _) rfl) ?_
          refine TL.nil (nt ?_)
          first | refine TC.condD rfl (fun hk2 => ?_) (fun hk2 => ?_) | refine TC.cond rfl (fun hk2 => ?_) (fun hk2 => ?_)
          · refine TC.region ?_
            refine q rfl rfl (mv (v := .pointer _) rfl) ?_
            refine e rfl ?_
            refine cl (tick_ok a now tn Q hbd (hinv.at2 (by omega))) rfl PkL.p trivial ?_
            intro _ _
            change TL _ _ _ _ _ _ _ _ (sepL [_, _, _, _])
            refine TL.nil (nb (nb (nt ?_)))
            refine TC.region ?_
            refine q rfl rfl (mv (v := .int _ _) rfl) ?_
            first | refine q rfl rfl (addI rfl rfl (by omega) (by omega)) ?_ | refine q rfl rfl (add rfl rfl rfl) ?_
            refine q rfl rfl (asg (v := .int _ _) rfl) ?_
            refine TL.nil (nt ?_)
            exact ⟨rfl, ⟨i + 1, _, _, tn⟩, ⟨hinv.tick, by dsimp only; omega⟩, (by dsimp only; omega), ⟨rfl, rfl, rfl, rfl, rfl, trivial⟩, (ent_take 1 rfl (ent_take 2 rfl (ent_nil _)))⟩
          · refine TC.skip (nb (nb (nt ?_)))
            refine TC.region ?_
            refine q rfl rfl (mv (v := .int _ _) rfl) ?_
            first | refine q rfl rfl (addI rfl rfl (by omega) (by omega)) ?_ | refine q rfl rfl (add rfl rfl rfl) ?_
            refine q rfl rfl (asg (v := .int _ _) rfl) ?_
            refine TL.nil (nt ?_)
            exact ⟨rfl, ⟨i + 1, Q, now, tn⟩, ⟨hinv.next (by dsimp only; omega), by dsimp only; omega⟩, (by dsimp only; omega), ⟨rfl, rfl, rfl, rfl, rfl, trivial⟩, (ent_take 1 rfl (ent_take 1 rfl (ent_nil _)))⟩
    · have hbd := hinv.bd (by omega)
      refine TC.exit (et (et (eb (nt ?_))))
      refine TC.seq ?_
      refine TC.region ?_
      refine q rfl rfl (mv (v := .pointer _) rfl) ?_
      refine q rfl rfl (mv (v := .int _ _) rfl) ?_
      first | refine q rfl rfl (conv .u8 .i64 rfl rfl rfl (wi64 (by omega) (by omega))) ?_ | refine q rfl rfl (conv .u8 .i64 rfl rfl rfl rfl) ?_
      refine e rfl ?_
      refine bs (cs := [.int _ _]) rfl ?_
      intro b3
      refine e rfl ?_
      refine cl (clear_ok a now tn Q hbd _ _ [d] (by simp)) rfl PkL.p ⟨_, RdSI.rd⟩ ?_
      intro _ _
      change TL _ _ _ _ _ _ _ _ (sepL [_, _, _])
      rw [clr_one]
      have hi2 := hinv.clr [d]
      rw [clr_one] at hi2
      have hi3 := hi2.set d (1 + t)
      have hsn := set_new (now := now) (tn := tn) (ticks := 1 + t) (off_not Q d) hd.1 (by omega) (by omega)
      refine TL.nil (nt ?_)
      refine TC.seq ?_
      refine TC.region ?_
      refine q rfl rfl (mv (v := .pointer _) rfl) ?_
      refine q rfl rfl (mv (v := .int _ _) rfl) ?_
      first | refine q rfl rfl (conv .u8 .i64 rfl rfl rfl (wi64 (by omega) (by omega))) ?_ | refine q rfl rfl (conv .u8 .i64 rfl rfl rfl rfl) ?_
      refine q rfl rfl (mv (v := .int _ _) rfl) ?_
      first | refine q rfl rfl (conv .u8 .i64 rfl rfl rfl (wi64 (by omega) (by omega))) ?_ | refine q rfl rfl (conv .u8 .i64 rfl rfl rfl rfl) ?_
      first | refine q rfl rfl (addI rfl rfl (by omega) (by omega)) ?_ | refine q rfl rfl (add rfl rfl rfl) ?_
      refine e rfl ?_
      refine cl (set_ok a now tn (offA Q d) (hi2.bd (by omega)) d (1 + t)) rfl PkL.p trivial ?_
      intro _ _
      change TL _ _ _ _ _ _ _ _ (sepL [_, _, _])
      rw [hsn] at hi3 ⊢
      dsimp only at hi3 ⊢
      have hmem : (⟨now + (1 + t), tn + 1, d⟩ : En) ∈ offA Q d ++ [⟨now + (1 + t), tn + 1, d⟩] := by simp
      generalize offA Q d ++ [⟨now + (1 + t), tn + 1, d⟩] = Z at hi3 hmem ⊢
      have hne : Z ≠ [] := List.ne_nil_of_mem hmem
      obtain ⟨⟨e1, he1, he2⟩, hle⟩ := next_spec hne now
      have hle1 := hle _ hmem
      have hrg := hi3.rg e1 he1
      dsimp only at hle1
      refine q rfl rfl (asg (v := .int _ _) rfl) ?_
      refine TL.nil (nt ?_)
      refine TC.seq ?_
      refine TC.region ?_
      refine q rfl rfl (mv (v := .pointer _) rfl) ?_
      refine e rfl ?_
      refine cl (next_ok a now (tn + 1) Z (hi3.bd (by omega)) (hi3.at1 (by omega))) rfl PkL.p trivial ?_
      intro _ _
      change TL _ _ _ _ _ _ _ _ (sepL [_, _, _])
      have hsh := next_shift hne now
      generalize hm : nextA Z now = m at he2 hle hle1 hsh ⊢
      refine q rfl rfl (asg (v := .int _ _) rfl) ?_
      refine TL.nil (nt ?_)
      refine TC.seq ?_
      refine TC.seq ?_
      refine TC.region ?_
      refine q rfl rfl (mv (v := .int _ _) rfl) ?_
      refine q rfl rfl (neI rfl rfl) ?_
      refine q rfl rfl (mv (v := .bool _) rfl) ?_
      refine TL.known 66 rfl (c := false) (by decide) ?_
      refine qg rfl rfl rfl (mv (v := .int _ _) rfl) ?_
      refine qg rfl rfl rfl (lss rfl rfl) ?_
      first | refine q rfl rfl (pkT rfl rfl) ?_ | refine q rfl rfl (pkF rfl rfl) ?_
      refine q rfl rfl (mv (v := .bool _) rfl) ?_
      refine TL.known 70 rfl (c := false) (decide_eq_false (by omega)) ?_
      refine qg rfl rfl rfl (mv (v := .int _ _) rfl) ?_
      refine qg rfl rfl rfl (mv (v := .int _ _) rfl) ?_
      first | refine qg rfl rfl rfl (conv .u8 .i64 rfl rfl rfl (wi64 (by omega) (by omega))) ?_ | refine qg rfl rfl rfl (conv .u8 .i64 rfl rfl rfl rfl) ?_
      first | refine qg rfl rfl rfl (addI rfl rfl (by omega) (by omega)) ?_ | refine qg rfl rfl rfl (add rfl rfl rfl) ?_
      refine qg rfl rfl rfl (gtr rfl rfl) ?_
      first | refine q rfl rfl (pkT rfl rfl) ?_ | refine q rfl rfl (pkF rfl rfl) ?_
      refine TL.nil (nt ?_)
      refine TC.condD rfl (fun hc1 => absurd hc1 (by omega)) (fun hc1 => ?_)
      refine TC.skip (nt ?_)
      refine TC.seq ?_
      refine TC.seq ?_
      refine TC.region ?_
      refine q rfl rfl (asg (v := .int _ _) rfl) ?_
      refine TL.nil (nt ?_)
      refine TC.block ?_
      refine TC.loop (ι := Nat) (fun k => 1 ≤ k ∧ (k : Int) ≤ m) (fun k => [(7, .pointer (some ⟨a, 0, none⟩)), (11, .int .i64 m), (12, .int .i64 (k : Int))]) (fun k => sepL [isAl a (now + ((k : Int) - 1)) (tn + 1) Z, F]) (fun k => m.toNat - k) 1 ⟨Nat.le_refl _, by omega⟩ ⟨rfl, rfl, rfl, trivial⟩ (ent_takeE 0 rfl (by rw [show now + (((1 : Nat) : Int) - 1) = now from by omega]) (ent_take 1 rfl (ent_nil _))) ?_
      rintro k ⟨hk1, hkm⟩ ρ1
      dsimp only [updL] at hk1 hkm ⊢
      refine TC.seq ?_
      refine TC.seq ?_
      refine TC.region ?_
      refine q rfl rfl (mv (v := .int _ _) rfl) ?_
      refine q rfl rfl (mv (v := .int _ _) rfl) ?_
      refine q rfl rfl (lss rfl rfl) ?_
      refine TL.nil (nt ?_)
      first | refine TC.condD rfl (fun hlt => ?_) (fun hlt => ?_) | refine TC.cond rfl (fun hlt => ?_) (fun hlt => ?_)
      · obtain ⟨d1, d2⟩ := due_no (Q := Z) (t := now + ((k : Int) - 1) + 1) (fun e2 h2 => by have := hle e2 h2; omega)
        refine TC.skip (nt ?_)
        refine TC.seq ?_
        refine TC.block ?_
        refine TC.seq ?_
        refine TC.region ?_
        refine q rfl rfl (mv (v := .pointer _) rfl) ?_
        refine e rfl ?_
        refine cl (tick_ok a (now + ((k : Int) - 1)) (tn + 1) Z (by have := hi3.nw; have := hi3.tu; have := hi3.len; omega) (fun e1 h1 => by have h2 := hle e1 h1; have h3 := hi3.rg e1 h1; have h4 := hi3.nw; omega)) rfl PkL.p trivial ?_
        intro _ _
        change TL _ _ _ _ _ _ _ _ (sepL [_, _, _])
        rw [d1, d2, show now + ((k : Int) - 1) + 1 = now + k from by omega]
        refine q rfl rfl (len 3 1 rfl rfl) ?_
        refine q rfl rfl (neI rfl rfl) ?_
        refine q rfl rfl (mv (v := .bool _) rfl) ?_
        refine TL.known 86 rfl (c := false) (by decide) ?_
        refine qg rfl rfl rfl (mv (v := .pointer _) rfl) ?_
        refine eg rfl rfl ?_
        refine cl (next_ok a (now + (k : Int)) (tn + 1) Z (by have := hi3.nw; have := hi3.tu; have := hi3.len; omega) (fun e1 h1 => by have h2 := hle e1 h1; have h3 := hi3.rg e1 h1; have h4 := hi3.nw; omega)) rfl PkL.p trivial ?_
        intro _ _
        change TL _ _ _ _ _ _ _ _ (sepL [_, _, _])
        rw [hsh]
        refine qg rfl rfl rfl (mv (v := .int _ _) rfl) ?_
        refine qg rfl rfl rfl (mv (v := .int _ _) rfl) ?_
        first | refine qg rfl rfl rfl (subI rfl rfl (by omega) (by omega)) ?_ | refine qg rfl rfl rfl (sub rfl rfl rfl) ?_
        refine qg rfl rfl rfl (neI rfl rfl) ?_
        first | refine q rfl rfl (pkT rfl rfl) ?_ | refine q rfl rfl (pkF rfl rfl) ?_
        refine TL.nil (nt ?_)
        refine TC.condD rfl (fun hc2 => absurd hc2 (by simp)) (fun hc2 => ?_)
        refine TC.skip (nb (nt ?_))
        refine TC.region ?_
        refine q rfl rfl (mv (v := .int _ _) rfl) ?_
        first | refine q rfl rfl (addI rfl rfl (by omega) (by omega)) ?_ | refine q rfl rfl (add rfl rfl rfl) ?_
        refine q rfl rfl (asg (v := .int _ _) rfl) ?_
        refine TL.nil (nt ?_)
        exact ⟨rfl, (k + 1), ⟨by omega, by omega⟩, (by omega), ⟨rfl, rfl, rfl, trivial⟩, (ent_takeE 0 rfl (by rw [show now + (((k + 1 : Nat) : Int) - 1) = now + k from by omega]) (ent_take 1 rfl (ent_nil _)))⟩
      · obtain rfl : m = (k : Int) := by omega
        have hdp : 0 < (ids (dueA (now + ((k : Int) - 1) + 1) Z)).length := by
          rw [ids, List.length_map]
          exact List.length_pos_iff.2 (List.ne_nil_of_mem (List.mem_filter.2 ⟨he1, by simp; omega⟩))
        refine TC.exit (et (et (eb (nt ?_))))
        refine TC.seq ?_
        refine TC.region ?_
        refine q rfl rfl (mv (v := .pointer _) rfl) ?_
        refine e rfl ?_
        refine cl (tick_ok a (now + ((k : Int) - 1)) (tn + 1) Z (by have := hi3.nw; have := hi3.tu; have := hi3.len; omega) (fun e1 h1 => by have h2 := hle e1 h1; have h3 := hi3.rg e1 h1; have h4 := hi3.nw; omega)) rfl PkL.p trivial ?_
        intro _ _
        change TL _ _ _ _ _ _ _ _ (sepL [_, _, _])
        refine q rfl rfl (len 3 1 rfl rfl) ?_
        refine q rfl rfl (gtr rfl rfl) ?_
        refine q rfl rfl (asg (v := .bool _) rfl) ?_
        refine TL.nil (nt ?_)
        refine TC.ret ?_
        exact Ret.i () [_] ⟨rfl, trivial⟩ (congrArg Value.bool (decide_eq_true (by omega))) trivial (ent_take 2 rfl (ent_nil _))

end Go.Proofs.Ytdikkmgcjhllaaa
