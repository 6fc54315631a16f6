/-
  Proved here: what functions of this program compute, each as a contract over symbolic states, under the premises that each theorem names (most lines printed by a program of the prover).
-/
import Derived.Test.YtncafknmdmoaoaaRdF
namespace Go.Proofs.Ytncafknmdmoaoaa
open Go Go.QM
abbrev slP (ra : Nat → Option Addr) (rc : Nat → Nat) (R : Nat → List Int) (p : Nat) : HP := slc 3 1 (ra p) (R p).length (rc p) (ints (R p))
abbrev hdA (ra : Nat → Option Addr) (rc : Nat → Nat) (R : Nat → List Int) : List Value := rowsC (fun p => .slice (ra p) (R p).length (rc p)) []
/-- Eight slices in an array. -/
def arr8 (b : Nat) (R : Nat → List Int) : HP := EX fun y : (Nat → Option Addr) × (Nat → Nat) => pure' True (sepL [pts b 50 (hdA y.1 y.2 R), bigS (slP y.1 y.2 R) (List.range 8)])
theorem arr8_new (b : Nat) (F : List HP) : ent (sepL (pts b 50 (rowsC (fun _ => .slice none 0 0) []) :: F)) (sepL (arr8 b (fun _ => []) :: F)) := by
  have h8 : List.range 8 = [0, 1, 2, 3, 4, 5, 6, 7] := by rfl
  have hn : ∀ hs, ent (sepL hs) (sepL (slc 3 1 none 0 0 [] :: hs)) := fun hs => slc_nil 3 1 hs
  refine ent_close ((fun _ => none, fun _ => 0) : (Nat → Option Addr) × (Nat → Nat)) trivial ?_
  refine ent_take 0 rfl ?_
  refine ((hn _).trans ((hn _).trans ((hn _).trans ((hn _).trans ((hn _).trans ((hn _).trans ((hn _).trans (hn _)))))))).trans ?_
  show ent _ (sepL (bigS (slP (fun _ => none) (fun _ => 0) (fun _ => [])) (List.range 8) :: F))
  rw [bigS, h8]
  exact sepL_append' [slc 3 1 none 0 0 [], slc 3 1 none 0 0 [], slc 3 1 none 0 0 [], slc 3 1 none 0 0 [], slc 3 1 none 0 0 [], slc 3 1 none 0 0 [], slc 3 1 none 0 0 [], slc 3 1 none 0 0 []] F
theorem arr_hd {ra : Nat → Option Addr} {rc : Nat → Nat} {R : Nat → List Int} {p n c : Nat} {a : Option Addr} {l : List Int} (h : l.length = n) :
    rowsC (fun x => if x = p then Value.slice a n c else .slice (ra x) (R x).length (rc x)) [] = hdA (updN ra p a) (updN rc p c) (updN R p l) := rows_congr fun x _ => by
  by_cases e : x = p
  · rw [if_pos e, e, updN_same, updN_same, updN_same, h]
  · rw [if_neg e, updN_ne e, updN_ne e, updN_ne e]
theorem arr_ne {ra : Nat → Option Addr} {rc : Nat → Nat} {R : Nat → List Int} {p c : Nat} {a : Option Addr} {l : List Int} {L : List Nat} (hL : ∀ x ∈ L, x ≠ p ∧ x < 8) : ∀ x ∈ L, slP ra rc R x = slP (updN ra p a) (updN rc p c) (updN R p l) x := fun x hx => by
  have := (hL x hx).1
  simp only [slP, updN_ne this]
def krp (dl : List Int) : Int → Bool := fun x => decide (x ∉ dl)
def RA (S : List Th) (dl : List Int) (p k x : Nat) : List Int := if x < p then (rowA S x).filter (krp dl) else if x = p then ((rowA S p).take k).filter (krp dl) else []
def LA (S : List Th) (dl : List Int) (p k x : Nat) : List Int := (RA S dl p k x).map (leftS S)
theorem RA_start (S : List Th) (dl : List Int) : RA S dl 0 0 = fun _ => [] := by
  funext x; rw [RA, if_neg (by omega)]; split <;> rfl
theorem LA_start (S : List Th) (dl : List Int) : LA S dl 0 0 = fun _ => [] := by
  funext x; rw [LA, RA_start]; rfl
theorem RA_next (S : List Th) (dl : List Int) (p : Nat) : RA S dl p (rowA S p).length = RA S dl (p + 1) 0 := by
  funext x
  rw [RA, RA]
  by_cases h : x < p
  · rw [if_pos h, if_pos (by omega)]
  · by_cases e : x = p
    · subst e; rw [if_neg h, if_pos rfl, if_pos (by omega), List.take_length]
    · rw [if_neg h, if_neg e, if_neg (by omega)]
      split <;> rfl
theorem LA_next (S : List Th) (dl : List Int) (p : Nat) : LA S dl p (rowA S p).length = LA S dl (p + 1) 0 := by
  funext x; rw [LA, RA_next]; rfl
theorem RA_in {S : List Th} {dl : List Int} {p k : Nat} {x : Int} (hx : (rowA S p)[k]? = some x) (hd : x ∈ dl) : RA S dl p (k + 1) = RA S dl p k := by
  funext y
  rw [RA, RA, List.take_add_one, hx, List.filter_append]
  simp [krp, hd]
theorem LA_in {S : List Th} {dl : List Int} {p k : Nat} {x : Int} (hx : (rowA S p)[k]? = some x) (hd : x ∈ dl) : LA S dl p (k + 1) = LA S dl p k := by
  funext y; rw [LA, RA_in hx hd]; rfl
theorem RA_out {S : List Th} {dl : List Int} {p k : Nat} {x : Int} (hx : (rowA S p)[k]? = some x) (hd : x ∉ dl) : RA S dl p (k + 1) = updN (RA S dl p k) p (RA S dl p k p ++ [x]) := by
  funext y
  by_cases e : y = p
  · subst e
    have h1 : ∀ j, RA S dl y j y = ((rowA S y).take j).filter (krp dl) := fun j => by rw [RA, if_neg (Nat.lt_irrefl y), if_pos rfl]
    rw [updN_same, h1, h1, List.take_add_one, hx, List.filter_append]
    simp [krp, hd]
  · rw [updN_ne e, RA, RA, if_neg e, if_neg e]
theorem LA_out {S : List Th} {dl : List Int} {p k : Nat} {x : Int} (hx : (rowA S p)[k]? = some x) (hd : x ∉ dl) : LA S dl p (k + 1) = updN (LA S dl p k) p (LA S dl p k p ++ [leftS S x]) := by
  funext y
  rw [LA, RA_out hx hd]
  by_cases e : y = p
  · subst e; rw [updN_same, updN_same, List.map_append]; rfl
  · rw [updN_ne e, updN_ne e]; rfl
theorem RA_len (S : List Th) (dl : List Int) (p k x : Nat) : (RA S dl p k x).length ≤ S.length := by
  rw [RA]
  split
  · exact Nat.le_trans (List.length_filter_le _ _) (rowA_len S x)
  · split
    · refine Nat.le_trans (List.length_filter_le _ _) (Nat.le_trans ?_ (rowA_len S p))
      rw [List.length_take]; exact Nat.min_le_right _ _
    · exact Nat.zero_le _
theorem LA_len (S : List Th) (dl : List Int) (p k x : Nat) : (LA S dl p k x).length ≤ S.length := by rw [LA, List.length_map]; exact RA_len S dl p k x
theorem rowA_drop (S : List Th) (dl : List Int) (p : Nat) : rowA (dropS S dl) p = (rowA S p).filter (krp dl) := by
  rw [dropS_eq, rowA, rowA, List.filter_map, List.filter_filter, List.filter_filter]
  congr 1
  exact List.filter_congr fun t _ => by simp [krp, Bool.and_comm]
theorem RA_end (S : List Th) (dl : List Int) {x : Nat} (h : x < 8) : RA S dl 8 0 x = rowA (dropS S dl) x := by rw [RA, if_pos h, rowA_drop]
theorem has_drop {S : List Th} {dl : List Int} {x : Int} (h : x ∈ dl) : ¬ hasS (dropS S dl) x := by
  rw [dropS_eq]
  rintro ⟨t, ht, rfl⟩
  have := (List.mem_filter.1 ht).2
  simp at this; exact this h
theorem drop_drop (S : List Th) (dl : List Int) : dropS (dropS S dl) dl = dropS S dl := by
  rw [dropS_eq (dropS S dl)]
  refine List.filter_eq_self.2 fun t ht => ?_
  simp only [decide_eq_true_eq]
  exact fun h => has_drop h ⟨t, ht, rfl⟩

set_option maxHeartbeats 2000000 in
theorem drops_ok (ad : Option Addr) (l : List RAct) (cap : Nat) (a2 : Option Addr) (dl : List Int) (c2 : Nat) (hdl : ∀ x ∈ dl, (Lit.int .i64 x).wf = true) : FSpec Try.prog 9 [.slice ad l.length cap, .slice a2 dl.length c2] (fun F => ((∃ E, RdS F E ad (ractsC l)) ∧ ∀ t ∈ l, ∃ E, RdS F E t.ad (ints t.xs)) ∧ ∃ E, RdS F E a2 (nums .i64 dl)) [] (fun _ : Unit => .bool true) (fun _ => True) (fun _ => []) := by
  refine FSpec.intro (rs := [.tmp 4]) (by kernel_rfl) Try.func9 rfl Try.ntmps9 (by rfl) rfl ?_
  intro F ⟨⟨⟨E, hF⟩, hin⟩, E3, hF3⟩
  change TC _ _ _ _ _ _ _ (sepL [_])
  haveI : RdSI F a2 E3 (ints dl) := ⟨hF3⟩
  haveI : RdSI F ad E (ractsC l) := ⟨hF⟩
  refine TC.seq ?_
  refine TC.region ?_
  refine q rfl rfl (asg (v := .bool _) rfl) ?_
  refine TL.nil (nt ?_)
  refine TC.seq ?_
  refine TC.seq ?_
  refine TC.region ?_
  refine e rfl ?_
  refine cl alive_ok rfl (picked_nil _) trivial ?_
  intro _ _
  change TL _ _ _ _ _ _ _ _ (sepL [_])
  first | refine q rfl rfl (notD rfl) ?_ | refine q rfl rfl (notB rfl) ?_
  refine TL.nil (nt ?_)
  refine TC.condF rfl ?_
  refine TC.skip (nt ?_)
  refine TC.seq ?_
  refine TC.seq ?_
  refine TC.region ?_
  refine q rfl rfl (mv (v := .slice _ _ _) rfl) ?_
  refine e rfl ?_
  refine cl (fits_ok ad l cap) rfl (picked_nil _) ⟨_, RdSI.rd (ad := ad)⟩ ?_
  intro _ _
  change TL _ _ _ _ _ _ _ _ (sepL [_])
  by_cases hfit : fitsL l
  · rw [decide_eq_true hfit]
    first | refine q rfl rfl (notD rfl) ?_ | refine q rfl rfl (notB rfl) ?_
    refine q rfl rfl (mv (v := .bool _) rfl) ?_
    refine TL.known 25 rfl (c := false) rfl ?_
    refine qg rfl rfl rfl (mv (v := .slice _ _ _) rfl) ?_
    refine qg rfl rfl rfl (len 3 1 rfl rfl) ?_
    refine qg rfl rfl rfl (gtr rfl rfl) ?_
    first | refine q rfl rfl (pkT rfl rfl) ?_ | refine q rfl rfl (pkF rfl rfl) ?_
    refine TL.nil (nt ?_)
    first | refine TC.condD rfl (fun hd50 => ?_) (fun hd50 => ?_) | refine TC.cond rfl (fun hd50 => ?_) (fun hd50 => ?_)
    · refine TC.seq ?_
      refine TC.region ?_
      refine q rfl rfl (asg (v := .bool _) rfl) ?_
      refine TL.nil (nt ?_)
      refine TC.ret (rt ?_)
      exact Ret.i () [_] ⟨rfl, trivial⟩ rfl trivial (ent_take 0 rfl (ent_nil _))
    · have hdl50 : dl.length ≤ 50 := by omega
      have hdi := ints_length dl
      refine TC.skip (nt ?_)
      refine TC.seq ?_
      refine TC.region ?_
      refine e rfl ?_
      refine cl rnew_ok rfl (picked_nil _) trivial ?_
      intro a _
      change TL _ _ _ _ _ _ _ _ (sepL [_, _])
      refine q rfl rfl (asg (v := .pointer _) rfl) ?_
      refine TL.nil (nt ?_)
      refine TC.seq ?_
      refine TC.seq ?_
      refine TC.region ?_
      refine q rfl rfl (asg (v := .int _ _) rfl) ?_
      refine TL.nil (nt ?_)
      refine TC.block ?_
      refine TC.loop (ι := Nat × List Th) (fun s => RJ s.2 s.1 ∧ s.1 ≤ l.length) (fun s => [(0, .slice ad l.length cap), (1, .slice a2 dl.length c2), (5, .pointer (some ⟨a, 0, none⟩)), (6, .int .i64 ((s.1 : Nat) : Int))]) (fun s => sepL [isQ a s.2, F]) (fun s => l.length - s.1) ⟨0, []⟩ ⟨RJ.nil 0, Nat.zero_le _⟩ ⟨rfl, rfl, rfl, rfl, trivial⟩ (ent_take 0 rfl (ent_take 0 rfl (ent_nil _))) ?_
      rintro ⟨i, S⟩ ⟨hJ, hi⟩ ρ0
      dsimp only [updL] at hJ hi ⊢
      refine TC.seq ?_
      refine TC.seq ?_
      refine TC.region ?_
      refine q rfl rfl (mv (v := .int _ _) rfl) ?_
      refine q rfl rfl (mv (v := .slice _ _ _) rfl) ?_
      refine q rfl rfl (len 38 5 rfl rfl) ?_
      refine q rfl rfl (lss rfl rfl) ?_
      refine TL.nil (nt ?_)
      first | refine TC.condD rfl (fun hlt => ?_) (fun hlt => ?_) | refine TC.cond rfl (fun hlt => ?_) (fun hlt => ?_)
      · have hl150 := hfit.1
        have hlt2 : i < l.length := by omega
        obtain ⟨t, ht⟩ : ∃ t, l[i]? = some t := ⟨l[i], List.getElem?_eq_getElem hlt2⟩
        have htm := List.mem_of_getElem? ht
        have ht50 := hfit.2 t htm
        obtain ⟨E2, hE2⟩ := hin t htm
        haveI : RdSI F t.ad E2 (ints t.xs) := ⟨hE2⟩
        have hpos : 0 < (ractsC l).length := by rw [ractsC_length]; omega
        refine TC.skip (nt ?_)
        refine TC.seq ?_
        refine TC.block ?_
        refine TC.region ?_
        refine q rfl rfl (mv (v := .pointer _) rfl) ?_
        refine q rfl rfl (mv (v := .slice _ _ _) rfl) ?_
        refine q rfl rfl (mv (v := .int _ _) rfl) ?_
        first | refine q rfl rfl (ixS 38 5 rfl rfl rfl (by omega) (by first | assumption | (simp [ints_length] <;> omega))) ?_ | refine q rfl rfl (ixJ 38 5 rfl rfl rfl (by omega) (by omega) (by first | assumption | (simp [ints_length] <;> omega))) ?_ | refine q rfl rfl (ix 38 5 rfl rfl rfl (by omega) (by omega) rfl) ?_
        first | refine q rfl rfl (ldN (vs := [_, _, _, _, _]) 5 rfl rfl rfl rfl) ?_ | refine q rfl rfl (ldSN (vs := [_, _, _, _, _]) 5 rfl rfl (flat_get_rec ractC_sz ht) rfl (by decide)) ?_ | refine q rfl rfl (ldSN (vs := [_, _, _, _, _]) 5 rfl rfl rfl rfl (by decide)) ?_
        refine e rfl ?_
        refine cl (do_ok a S i t hJ (by omega) (by omega)) rfl (picked_cons 0 rfl (picked_nil _)) ⟨_, RdSI.rd (ad := t.ad)⟩ ?_
        intro _ _
        change TL _ _ _ _ _ _ _ _ (sepL [_, _])
        refine TL.nil (nb (nt ?_))
        refine TC.region ?_
        refine q rfl rfl (mv (v := .int _ _) rfl) ?_
        first | refine q rfl rfl (addI rfl rfl (by omega) (by omega)) ?_ | refine q rfl rfl (add rfl rfl rfl) ?_
        refine q rfl rfl (asg (v := .int _ _) rfl) ?_
        refine TL.nil (nt ?_)
        exact ⟨rfl, ⟨i + 1, _⟩, ⟨hJ.act t, by dsimp only; omega⟩, (by dsimp only; omega), ⟨rfl, rfl, rfl, rfl, trivial⟩, (ent_take 0 rfl (ent_take 0 rfl (ent_nil _)))⟩
      · have hl150 := hfit.1
        have hSl := hJ.len
        have hnd := hJ.inv.nd
        refine TC.exit (et (et (eb (nt ?_))))
        refine TC.seq ?_
        refine TC.region ?_
        refine e rfl ?_
        refine al (l := [.slice _ _ _, .slice _ _ _, .slice _ _ _, .slice _ _ _, .slice _ _ _, .slice _ _ _, .slice _ _ _, .slice _ _ _]) rfl rfl ?_
        intro b1
        refine TL.nil (nt ?_)
        refine TC.seq ?_
        refine TC.region ?_
        refine e rfl ?_
        refine al (l := [.slice _ _ _, .slice _ _ _, .slice _ _ _, .slice _ _ _, .slice _ _ _, .slice _ _ _, .slice _ _ _, .slice _ _ _]) rfl rfl ?_
        intro b2
        refine TL.nil (nt ?_)
        refine TC.seq ?_
        refine TC.seq ?_
        refine TC.region ?_
        refine q rfl rfl (asg (v := .int _ _) rfl) ?_
        refine TL.nil (nt ?_)
        refine TC.block ?_
        skip
        refine TC.weak (B := sepL [arr8 b1 (RA S dl 0 0), arr8 b2 (LA S dl 0 0), isQ a S, F]) (by rw [RA_start, LA_start]; exact (sep_mono (ent.refl _) (arr8_new b1 _)).trans ((arr8_new b2 _).trans (ent_take 1 rfl (ent_take 0 rfl (ent_take 0 rfl (ent_take 0 rfl (ent_nil _))))))) ?_
        refine TC.loop (ι := Nat) (fun p => p ≤ 8) (fun p => [(0, .slice ad l.length cap), (1, .slice a2 dl.length c2), (5, .pointer (some ⟨a, 0, none⟩)), (7, .pointer (some ⟨b1, 0, none⟩)), (8, .pointer (some ⟨b2, 0, none⟩)), (9, .int .i64 (p : Int))]) (fun p => sepL [arr8 b1 (RA S dl p 0), arr8 b2 (LA S dl p 0), isQ a S, F]) (fun p => 8 - p) 0 (by omega) ⟨rfl, rfl, rfl, rfl, rfl, rfl, trivial⟩ (ent_take 0 rfl (ent_take 0 rfl (ent_take 0 rfl (ent_take 0 rfl (ent_nil _))))) ?_
        rintro p hp ρ1
        dsimp only [updL] at hp ⊢
        refine TC.seq ?_
        refine TC.seq ?_
        refine TC.region ?_
        refine q rfl rfl (mv (v := .int _ _) rfl) ?_
        refine q rfl rfl (lss rfl rfl) ?_
        refine TL.nil (nt ?_)
        first | refine TC.condD rfl (fun hp7 => ?_) (fun hp7 => ?_) | refine TC.cond rfl (fun hp7 => ?_) (fun hp7 => ?_)
        · have hp8 : p < 8 := by omega
          have hrR : rowR S (p : Int) = rowA S p := by rw [rowR, if_pos (by omega), Int.toNat_natCast]
          have hrl := rowA_len S p
          have hil := ints_length (rowA S p)
          obtain ⟨L, hL, hLn⟩ := range_perm hp8
          refine TC.skip (nt ?_)
          refine TC.seq ?_
          refine TC.block ?_
          refine TC.seq ?_
          refine TC.region ?_
          refine q rfl rfl (mv (v := .pointer _) rfl) ?_
          refine q rfl rfl (mv (v := .int _ _) rfl) ?_
          refine e rfl ?_
          refine cl (row_ok a S (by omega) (p : Int)) rfl (picked_cons 2 rfl (picked_nil _)) trivial ?_
          intro y _
          change TL _ _ _ _ _ _ _ _ (sepL [_, _, _, _, _])
          rw [hrR]
          refine q rfl rfl (asg (v := .slice _ _ _) rfl) ?_
          refine TL.nil (nt ?_)
          refine TC.seq ?_
          refine TC.region ?_
          refine q rfl rfl (asg (v := .int _ _) rfl) ?_
          refine TL.nil (nt ?_)
          refine TC.block ?_
          refine TC.loop (ι := Nat) (fun k => k ≤ (rowA S p).length) (fun k => [(0, .slice ad l.length cap), (1, .slice a2 dl.length c2), (5, .pointer (some ⟨a, 0, none⟩)), (7, .pointer (some ⟨b1, 0, none⟩)), (8, .pointer (some ⟨b2, 0, none⟩)), (9, .int .i64 (p : Int)), (10, .slice y.1 (rowA S p).length y.2), (11, .int .i64 (k : Int))]) (fun k => sepL [arr8 b1 (RA S dl p k), arr8 b2 (LA S dl p k), slc 3 1 y.1 (rowA S p).length y.2 (ints (rowA S p)), isQ a S, F]) (fun k => (rowA S p).length - k) 0 (Nat.zero_le _) ⟨rfl, rfl, rfl, rfl, rfl, rfl, rfl, rfl, trivial⟩ (ent_take 2 rfl (ent_take 2 rfl (ent_take 0 rfl (ent_take 0 rfl (ent_take 0 rfl (ent_nil _)))))) ?_
          rintro k hk ρ2
          dsimp only [updL] at hk ⊢
          refine TC.seq ?_
          refine TC.seq ?_
          refine TC.region ?_
          refine q rfl rfl (mv (v := .int _ _) rfl) ?_
          refine q rfl rfl (mv (v := .slice _ _ _) rfl) ?_
          refine q rfl rfl (len 3 1 rfl rfl) ?_
          refine q rfl rfl (lss rfl rfl) ?_
          refine TL.nil (nt ?_)
          first | refine TC.condD rfl (fun hkl => ?_) (fun hkl => ?_) | refine TC.cond rfl (fun hkl => ?_) (fun hkl => ?_)
          · have hkl2 : k < (rowA S p).length := by omega
            obtain ⟨x, hx⟩ : ∃ x, (rowA S p)[k]? = some x := ⟨_, List.getElem?_eq_getElem hkl2⟩
            have hpos2 : 0 < (ints (rowA S p)).length := by omega
            refine TC.skip (nt ?_)
            refine TC.seq ?_
            refine TC.block ?_
            refine TC.seq ?_
            refine TC.region ?_
            refine q rfl rfl (asg (v := .bool _) rfl) ?_
            refine TL.nil (nt ?_)
            refine TC.seq ?_
            refine TC.seq ?_
            refine TC.region ?_
            refine q rfl rfl (asg (v := .int _ _) rfl) ?_
            refine TL.nil (nt ?_)
            refine TC.block ?_
            refine TC.loop (ι := Nat) (fun m => m ≤ dl.length) (fun m => [(0, .slice ad l.length cap), (1, .slice a2 dl.length c2), (5, .pointer (some ⟨a, 0, none⟩)), (7, .pointer (some ⟨b1, 0, none⟩)), (8, .pointer (some ⟨b2, 0, none⟩)), (9, .int .i64 (p : Int)), (10, .slice y.1 (rowA S p).length y.2), (11, .int .i64 (k : Int)), (12, .bool (decide (x ∈ dl.take m))), (13, .int .i64 (m : Int))]) (fun m => sepL [arr8 b1 (RA S dl p k), arr8 b2 (LA S dl p k), slc 3 1 y.1 (rowA S p).length y.2 (ints (rowA S p)), isQ a S, F]) (fun m => dl.length - m) 0 (Nat.zero_le _) ⟨rfl, rfl, rfl, rfl, rfl, rfl, rfl, rfl, congrArg Value.bool (decide_eq_false (by simp)).symm, rfl, trivial⟩ (ent_take 0 rfl (ent_take 0 rfl (ent_take 0 rfl (ent_take 0 rfl (ent_take 0 rfl (ent_nil _)))))) ?_
            rintro m hm ρ3
            dsimp only [updL] at hm ⊢
            refine TC.seq ?_
            refine TC.seq ?_
            refine TC.region ?_
            refine q rfl rfl (mv (v := .int _ _) rfl) ?_
            refine q rfl rfl (mv (v := .slice _ _ _) rfl) ?_
            refine q rfl rfl (len 3 1 rfl rfl) ?_
            refine q rfl rfl (lss rfl rfl) ?_
            refine TL.nil (nt ?_)
            first | refine TC.condD rfl (fun hml => ?_) (fun hml => ?_) | refine TC.cond rfl (fun hml => ?_) (fun hml => ?_)
            · have hml2 : m < dl.length := by omega
              obtain ⟨z, hz⟩ : ∃ z, dl[m]? = some z := ⟨_, List.getElem?_eq_getElem hml2⟩
              have hposd : 0 < (ints dl).length := by omega
              have htk : dl.take (m + 1) = dl.take m ++ [z] := by rw [List.take_add_one, hz]; rfl
              refine TC.skip (nt ?_)
              refine TC.seq ?_
              refine TC.block ?_
              refine TC.draw _ [] [(0, false), (1, false), (2, false), (3, false), (4, false), (5, false), (6, false), (7, false), (8, false), (9, false), (10, false), (11, false), (12, false)] (by kernel_rfl) (by kernel_rfl) (ent.refl _) ?_
              refine dq rfl rfl rfl (mv (v := .bool _) rfl) ?_
              refine dq rfl rfl rfl (mv (v := .bool _) rfl) ?_
              refine TD.split 63 rfl (fun ho => ?_) (fun ho => ?_)
              · have ho := of_decide_eq_true ho
                refine dk rfl rfl rfl rfl ?_
                refine dk rfl rfl rfl rfl ?_
                refine dk rfl rfl rfl rfl ?_
                refine dk rfl rfl rfl rfl ?_
                refine dk rfl rfl rfl rfl ?_
                refine dk rfl rfl rfl rfl ?_
                refine dk rfl rfl rfl rfl ?_
                refine dk rfl rfl rfl rfl ?_
                refine dk rfl rfl rfl rfl ?_
                first | refine dq rfl rfl rfl (pkT rfl rfl) ?_ | refine dq rfl rfl rfl (pkF rfl rfl) ?_
                refine dq rfl rfl rfl (asg (v := .bool _) rfl) ?_
                refine TD.nil (nb (nt ?_))
                refine TC.region ?_
                refine q rfl rfl (mv (v := .int _ _) rfl) ?_
                first | refine q rfl rfl (addI rfl rfl (by omega) (by omega)) ?_ | refine q rfl rfl (add rfl rfl rfl) ?_
                refine q rfl rfl (asg (v := .int _ _) rfl) ?_
                refine TL.nil (nt ?_)
                exact ⟨rfl, (m + 1), (by omega), (by omega), ⟨rfl, rfl, rfl, rfl, rfl, rfl, rfl, rfl, congrArg Value.bool ((decide_eq_true (by rw [htk]; simp [ho])).symm), rfl, trivial⟩, (ent_take 0 rfl (ent_take 0 rfl (ent_take 0 rfl (ent_take 0 rfl (ent_take 0 rfl (ent_nil _))))))⟩
              · have ho := of_decide_eq_false ho
                refine dg rfl rfl rfl rfl (mv (v := .slice _ _ _) rfl) ?_
                refine dg rfl rfl rfl rfl (mv (v := .int _ _) rfl) ?_
                first | refine dg rfl rfl rfl rfl (ixS 3 1 rfl rfl rfl (by omega) (by first | assumption | (simp [ints_length] <;> omega))) ?_ | refine dg rfl rfl rfl rfl (ixJ 3 1 rfl rfl rfl (by omega) (by omega) (by first | assumption | (simp [ints_length] <;> omega))) ?_ | refine dg rfl rfl rfl rfl (ix 3 1 rfl rfl rfl (by omega) (by omega) rfl) ?_
                first | refine dg rfl rfl rfl rfl (ld rfl rfl rfl) ?_ | refine dg rfl rfl rfl rfl (ldS rfl rfl (ints_get hz)) ?_ | refine dg rfl rfl rfl rfl (ldS rfl rfl (ints_get hx)) ?_ | refine dg rfl rfl rfl rfl (ldS rfl rfl rfl) ?_
                refine dg rfl rfl rfl rfl (mv (v := .slice _ _ _) rfl) ?_
                refine dg rfl rfl rfl rfl (mv (v := .int _ _) rfl) ?_
                first | refine dg rfl rfl rfl rfl (ixS 3 1 rfl rfl rfl (by omega) (by first | assumption | (simp [ints_length] <;> omega))) ?_ | refine dg rfl rfl rfl rfl (ixJ 3 1 rfl rfl rfl (by omega) (by omega) (by first | assumption | (simp [ints_length] <;> omega))) ?_ | refine dg rfl rfl rfl rfl (ix 3 1 rfl rfl rfl (by omega) (by omega) rfl) ?_
                first | refine dg rfl rfl rfl rfl (ld rfl rfl rfl) ?_ | refine dg rfl rfl rfl rfl (ldS rfl rfl (ints_get hz)) ?_ | refine dg rfl rfl rfl rfl (ldS rfl rfl (ints_get hx)) ?_ | refine dg rfl rfl rfl rfl (ldS rfl rfl rfl) ?_
                refine dg rfl rfl rfl rfl (eqI rfl rfl) ?_
                first | refine dq rfl rfl rfl (pkT rfl rfl) ?_ | refine dq rfl rfl rfl (pkF rfl rfl) ?_
                refine dq rfl rfl rfl (asg (v := .bool _) rfl) ?_
                refine TD.nil (nb (nt ?_))
                refine TC.region ?_
                refine q rfl rfl (mv (v := .int _ _) rfl) ?_
                first | refine q rfl rfl (addI rfl rfl (by omega) (by omega)) ?_ | refine q rfl rfl (add rfl rfl rfl) ?_
                refine q rfl rfl (asg (v := .int _ _) rfl) ?_
                refine TL.nil (nt ?_)
                exact ⟨rfl, (m + 1), (by omega), (by omega), ⟨rfl, rfl, rfl, rfl, rfl, rfl, rfl, rfl, congrArg Value.bool (by rw [decide_eq_decide, htk]; simp [ho]; exact eq_comm), rfl, trivial⟩, (ent_take 0 rfl (ent_take 0 rfl (ent_take 0 rfl (ent_take 0 rfl (ent_take 0 rfl (ent_nil _))))))⟩
            · obtain rfl : m = dl.length := by omega
              rw [List.take_length]
              by_cases hd : x ∈ dl
              · rw [decide_eq_true hd]
                refine TC.exit (et (et (eb (nt ?_))))
                refine TC.seq ?_
                refine TC.region ?_
                refine q rfl rfl (mv (v := .bool _) rfl) ?_
                first | refine q rfl rfl (notD rfl) ?_ | refine q rfl rfl (notB rfl) ?_
                refine TL.nil (nt ?_)
                refine TC.condF rfl ?_
                refine TC.skip (nb (nt ?_))
                refine TC.region ?_
                refine q rfl rfl (mv (v := .int _ _) rfl) ?_
                first | refine q rfl rfl (addI rfl rfl (by omega) (by omega)) ?_ | refine q rfl rfl (add rfl rfl rfl) ?_
                refine q rfl rfl (asg (v := .int _ _) rfl) ?_
                refine TL.nil (nt ?_)
                exact ⟨rfl, (k + 1), (by omega), (by omega), ⟨rfl, rfl, rfl, rfl, rfl, rfl, rfl, rfl, trivial⟩, (ent_takeE 0 rfl (by rw [RA_in hx hd]) (ent_takeE 0 rfl (by rw [LA_in hx hd]) (ent_take 0 rfl (ent_take 0 rfl (ent_take 0 rfl (ent_nil _))))))⟩
              · rw [decide_eq_false hd]
                have hral := RA_len S dl p k p
                have hlal := LA_len S dl p k p
                have hlfx : leftS S x = leftS S x := rfl
                refine TC.exit (et (et (eb (nt ?_))))
                refine TC.seq ?_
                refine TC.region ?_
                refine q rfl rfl (mv (v := .bool _) rfl) ?_
                first | refine q rfl rfl (notD rfl) ?_ | refine q rfl rfl (notB rfl) ?_
                refine TL.nil (nt ?_)
                refine TC.condT rfl ?_
                refine TC.seq ?_
                refine TC.open 0 rfl (fun x0 hx0 => ?_)
                obtain ⟨ra, rc⟩ := x0
                clear hx0
                change TC _ _ _ _ _ _ _ (sepL [_, _, _, _, _, _])
                dsimp only
                refine TC.weak (ent_openB 1 rfl hL) ?_
                refine TC.draw _ [11] [(0, false), (1, false), (2, false), (3, false), (4, false), (5, false), (6, false), (7, false), (8, true), (9, true), (10, false), (11, true)] (by kernel_rfl) (by kernel_rfl) (ent_take 2 rfl (ent_take 3 rfl (ent_nil _))) ?_
                refine dq rfl rfl rfl (mv (v := .int _ _) rfl) ?_
                refine dq rfl rfl rfl (mv (v := .int _ _) rfl) ?_
                refine dq rfl rfl rfl (ixAl 8 29 1 rfl rfl rfl (by omega) (by omega)) ?_
                first | refine dq rfl rfl rfl (ld rfl rfl rfl) ?_ | refine dq rfl rfl rfl (ld rfl rfl (rows_ld hp8 (by omega))) ?_ | refine dq rfl rfl rfl (ldS rfl rfl (ints_get hx)) ?_ | refine dq rfl rfl rfl (ldS rfl rfl rfl) ?_
                refine dq rfl rfl rfl (mv (v := .slice _ _ _) rfl) ?_
                refine dq rfl rfl rfl (mv (v := .int _ _) rfl) ?_
                first | refine dq rfl rfl rfl (ixS 3 1 rfl rfl rfl (by omega) (by first | assumption | (simp [ints_length] <;> omega))) ?_ | refine dq rfl rfl rfl (ixJ 3 1 rfl rfl rfl (by omega) (by omega) (by first | assumption | (simp [ints_length] <;> omega))) ?_ | refine dq rfl rfl rfl (ix 3 1 rfl rfl rfl (by omega) (by omega) rfl) ?_
                first | refine dq rfl rfl rfl (ld rfl rfl rfl) ?_ | refine dq rfl rfl rfl (ld rfl rfl (rows_ld hp8 (by omega))) ?_ | refine dq rfl rfl rfl (ldS rfl rfl (ints_get hx)) ?_ | refine dq rfl rfl rfl (ldS rfl rfl rfl) ?_
                refine de rfl rfl ?_
                refine bs (cs := [.int _ _]) rfl ?_
                intro b3
                refine ⟨(by repeat (first | exact ent_nil _ | refine ent_take 0 rfl ?_ | refine ent_take 1 rfl ?_ | refine ent_take 2 rfl ?_ | refine ent_take 3 rfl ?_ | refine ent_take 4 rfl ?_ | refine ent_take 5 rfl ?_ | refine ent_take 6 rfl ?_ | refine ent_take 7 rfl ?_)), ?_⟩
                refine de rfl rfl ?_
                refine ap 8 rfl rfl rfl rfl rfl (Nat.le_of_ble_eq_true rfl) (show _ = ints [x] from rfl) rfl (by omega) (by simp only [maxLen]; omega) ?_
                intro ad1 cap1
                refine ⟨(by repeat (first | exact ent_nil _ | refine ent_take 0 rfl ?_ | refine ent_take 1 rfl ?_ | refine ent_take 2 rfl ?_ | refine ent_take 3 rfl ?_ | refine ent_take 4 rfl ?_ | refine ent_take 5 rfl ?_ | refine ent_take 6 rfl ?_ | refine ent_take 7 rfl ?_)), ?_⟩
                refine dq rfl rfl rfl (ixAl 8 29 1 rfl rfl rfl (by omega) (by omega)) ?_
                refine dl0 rfl rfl rfl ?_
                first | refine st (v := .slice _ _ _) (vs := [_]) 1 rfl rfl rfl rfl rfl rfl (Nat.le_of_ble_eq_true rfl) rfl ?_ | refine st (v := .slice _ _ _) (vs := [_]) 1 rfl rfl rfl rfl rfl rfl (by rw [rows_length]; simp; omega) (rows_st _ hp8 (by omega)) ?_
                refine TD.nil (nt ?_)
                refine TC.weak (B := sepL [arr8 b2 (LA S dl p k), arr8 b1 (RA S dl p (k + 1)), slc 3 1 y.1 (rowA S p).length y.2 (ints (rowA S p)), isQ a S, F]) (ent_take 4 rfl (ent_close ⟨updN ra p ad1, updN rc p cap1⟩ trivial (ent_takeE 0 rfl (by rw [RA_out hx hd]; exact congrArg (pts b1 50) (arr_hd (by simp))) (ent_closeB 0 1 p rfl rfl (by rw [RA_out hx hd]; dsimp only [slP]; rw [updN_same, updN_same, updN_same, List.length_append, List.length_singleton, ints_app1]) (by rw [RA_out hx hd]; exact arr_ne hLn) hL.symm (ent_take 1 rfl (ent_take 1 rfl (ent_take 1 rfl (ent_nil _)))))))) ?_
                refine TC.open 0 rfl (fun x0 hx0 => ?_)
                obtain ⟨ra2, rc2⟩ := x0
                clear hx0
                change TC _ _ _ _ _ _ _ (sepL [_, _, _, _, _, _])
                dsimp only
                refine TC.weak (ent_openB 1 rfl hL) ?_
                refine TC.draw _ [13] [(0, false), (1, false), (2, false), (3, false), (4, false), (5, false), (6, false), (7, false), (8, false), (9, true), (10, true), (11, true), (12, false), (13, true)] (by kernel_rfl) (by kernel_rfl) (ent_take 2 rfl (ent_take 3 rfl (ent_nil _))) ?_
                refine dq rfl rfl rfl (mv (v := .int _ _) rfl) ?_
                refine dq rfl rfl rfl (mv (v := .int _ _) rfl) ?_
                refine dq rfl rfl rfl (ixAl 8 29 1 rfl rfl rfl (by omega) (by omega)) ?_
                first | refine dq rfl rfl rfl (ld rfl rfl rfl) ?_ | refine dq rfl rfl rfl (ld rfl rfl (rows_ld hp8 (by omega))) ?_ | refine dq rfl rfl rfl (ldS rfl rfl (ints_get hx)) ?_ | refine dq rfl rfl rfl (ldS rfl rfl rfl) ?_
                refine dq rfl rfl rfl (mv (v := .pointer _) rfl) ?_
                refine dq rfl rfl rfl (mv (v := .slice _ _ _) rfl) ?_
                refine dq rfl rfl rfl (mv (v := .int _ _) rfl) ?_
                first | refine dq rfl rfl rfl (ixS 3 1 rfl rfl rfl (by omega) (by first | assumption | (simp [ints_length] <;> omega))) ?_ | refine dq rfl rfl rfl (ixJ 3 1 rfl rfl rfl (by omega) (by omega) (by first | assumption | (simp [ints_length] <;> omega))) ?_ | refine dq rfl rfl rfl (ix 3 1 rfl rfl rfl (by omega) (by omega) rfl) ?_
                first | refine dq rfl rfl rfl (ld rfl rfl rfl) ?_ | refine dq rfl rfl rfl (ld rfl rfl (rows_ld hp8 (by omega))) ?_ | refine dq rfl rfl rfl (ldS rfl rfl (ints_get hx)) ?_ | refine dq rfl rfl rfl (ldS rfl rfl rfl) ?_
                refine de rfl rfl ?_
                refine cl (qleft_ok a S (by omega) x) rfl (picked_cons 5 rfl (picked_nil _)) trivial ?_
                intro _ _
                change ent _ _ ∧ TD _ _ _ _ _ _ _ _ _ _ (sepL [_, _, _, _, _, _, _])
                refine ⟨(by repeat (first | exact ent_nil _ | refine ent_take 0 rfl ?_ | refine ent_take 1 rfl ?_ | refine ent_take 2 rfl ?_ | refine ent_take 3 rfl ?_ | refine ent_take 4 rfl ?_ | refine ent_take 5 rfl ?_ | refine ent_take 6 rfl ?_ | refine ent_take 7 rfl ?_)), ?_⟩
                refine de rfl rfl ?_
                refine bs (cs := [.int _ _]) rfl ?_
                intro b4
                refine ⟨(by repeat (first | exact ent_nil _ | refine ent_take 0 rfl ?_ | refine ent_take 1 rfl ?_ | refine ent_take 2 rfl ?_ | refine ent_take 3 rfl ?_ | refine ent_take 4 rfl ?_ | refine ent_take 5 rfl ?_ | refine ent_take 6 rfl ?_ | refine ent_take 7 rfl ?_)), ?_⟩
                refine de rfl rfl ?_
                refine ap 8 rfl rfl rfl rfl rfl (Nat.le_of_ble_eq_true rfl) (show _ = ints [leftS S x] from rfl) rfl (by omega) (by simp only [maxLen]; omega) ?_
                intro ad2 cap2
                refine ⟨(by repeat (first | exact ent_nil _ | refine ent_take 0 rfl ?_ | refine ent_take 1 rfl ?_ | refine ent_take 2 rfl ?_ | refine ent_take 3 rfl ?_ | refine ent_take 4 rfl ?_ | refine ent_take 5 rfl ?_ | refine ent_take 6 rfl ?_ | refine ent_take 7 rfl ?_)), ?_⟩
                refine dq rfl rfl rfl (ixAl 8 29 1 rfl rfl rfl (by omega) (by omega)) ?_
                refine dl0 rfl rfl rfl ?_
                first | refine st (v := .slice _ _ _) (vs := [_]) 1 rfl rfl rfl rfl rfl rfl (Nat.le_of_ble_eq_true rfl) rfl ?_ | refine st (v := .slice _ _ _) (vs := [_]) 1 rfl rfl rfl rfl rfl rfl (by rw [rows_length]; simp; omega) (rows_st _ hp8 (by omega)) ?_
                refine TD.nil (nb (nt ?_))
                refine TC.region ?_
                refine q rfl rfl (mv (v := .int _ _) rfl) ?_
                first | refine q rfl rfl (addI rfl rfl (by omega) (by omega)) ?_ | refine q rfl rfl (add rfl rfl rfl) ?_
                refine q rfl rfl (asg (v := .int _ _) rfl) ?_
                refine TL.nil (nt ?_)
                exact ⟨rfl, (k + 1), (by omega), (by omega), ⟨rfl, rfl, rfl, rfl, rfl, rfl, rfl, rfl, trivial⟩, (ent_take 5 rfl (ent_close ⟨updN ra2 p ad2, updN rc2 p cap2⟩ trivial (ent_takeE 0 rfl (by rw [LA_out hx hd]; exact congrArg (pts b2 50) (arr_hd (by simp))) (ent_closeB 0 2 p rfl rfl (by rw [LA_out hx hd]; dsimp only [slP]; rw [updN_same, updN_same, updN_same, List.length_append, List.length_singleton, ints_app1]) (by rw [LA_out hx hd]; exact arr_ne hLn) hL.symm (ent_take 2 rfl (ent_take 1 rfl (ent_take 1 rfl (ent_nil _))))))))⟩
          · obtain rfl : k = (rowA S p).length := by omega
            rw [RA_next, LA_next]
            refine TC.exit (et (et (eb (nb (nt ?_)))))
            refine TC.region ?_
            refine q rfl rfl (mv (v := .int _ _) rfl) ?_
            first | refine q rfl rfl (addI rfl rfl (by omega) (by omega)) ?_ | refine q rfl rfl (add rfl rfl rfl) ?_
            refine q rfl rfl (asg (v := .int _ _) rfl) ?_
            refine TL.nil (nt ?_)
            exact ⟨rfl, (p + 1), (by omega), (by omega), ⟨rfl, rfl, rfl, rfl, rfl, rfl, trivial⟩, (ent_take 0 rfl (ent_take 0 rfl (ent_take 1 rfl (ent_take 1 rfl (ent_nil _)))))⟩
        · obtain rfl : p = 8 := by omega
          refine TC.exit (et (et (eb (nt ?_))))
          refine TC.seq ?_
          refine TC.region ?_
          refine q rfl rfl (mv (v := .pointer _) rfl) ?_
          refine e rfl ?_
          refine cl (qlen_ok a S (by omega)) rfl (picked_cons 2 rfl (picked_nil _)) trivial ?_
          intro _ _
          change TL _ _ _ _ _ _ _ _ (sepL [_, _, _, _])
          refine q rfl rfl (asg (v := .int _ _) rfl) ?_
          refine TL.nil (nt ?_)
          refine TC.seq ?_
          refine TC.region ?_
          refine q rfl rfl (mv (v := .pointer _) rfl) ?_
          refine q rfl rfl (mv (v := .slice _ _ _) rfl) ?_
          refine e rfl ?_
          refine cl (drop_ok a S (by omega) a2 c2 dl (by omega)) rfl (picked_cons 0 rfl (picked_nil _)) ⟨_, RdSI.rd (ad := a2)⟩ ?_
          intro _ _
          change TL _ _ _ _ _ _ _ _ (sepL [_, _, _, _])
          have hJ2 := hJ.drop dl
          have hZr : ∀ x, x < 8 → RA S dl 8 0 x = rowA (dropS S dl) x := fun x hx => RA_end S dl hx
          have hZl : ∀ x, x < 8 → ∀ j u, (rowA (dropS S dl) x)[j]? = some u → (LA S dl 8 0 x)[j]? = some (leftS (dropS S dl) u) := fun x hx j u hu => by
            rw [LA, hZr x hx, List.getElem?_map, hu]
            obtain ⟨w, hw, _, rfl⟩ := row_at hu
            rw [left_of hJ2.inv.nd hw, Option.map_some, left_of hnd ((dropS_sub S dl).subset hw)]
          have hZn : ∀ x ∈ dl, ¬ hasS (dropS S dl) x := fun x hx => has_drop hx
          have hZd := drop_drop S dl
          have hZle := (dropS_sub S dl).length_le
          generalize dropS S dl = Z at hJ2 hZr hZl hZn hZd hZle ⊢
          refine q rfl rfl (asg (v := .int _ _) rfl) ?_
          refine TL.nil (nt ?_)
          refine TC.seq ?_
          refine TC.seq ?_
          refine TC.region ?_
          refine q rfl rfl (asg (v := .int _ _) rfl) ?_
          refine TL.nil (nt ?_)
          refine TC.block ?_
          refine TC.loop (ι := Nat) (fun m => m ≤ dl.length) (fun m => [(1, .slice a2 dl.length c2), (5, .pointer (some ⟨a, 0, none⟩)), (7, .pointer (some ⟨b1, 0, none⟩)), (8, .pointer (some ⟨b2, 0, none⟩)), (14, .int .i64 S.length), (15, .int .i64 ((S.length : Int) - Z.length)), (16, .int .i64 (m : Int))]) (fun m => sepL [arr8 b1 (RA S dl 8 0), arr8 b2 (LA S dl 8 0), isQ a Z, F]) (fun m => dl.length - m) 0 (Nat.zero_le _) ⟨rfl, rfl, rfl, rfl, rfl, rfl, rfl, trivial⟩ (ent_take 1 rfl (ent_take 1 rfl (ent_take 0 rfl (ent_take 0 rfl (ent_nil _))))) ?_
          rintro m hm ρ1
          dsimp only [updL] at hm ⊢
          refine TC.seq ?_
          refine TC.seq ?_
          refine TC.region ?_
          refine q rfl rfl (mv (v := .int _ _) rfl) ?_
          refine q rfl rfl (mv (v := .slice _ _ _) rfl) ?_
          refine q rfl rfl (len 3 1 rfl rfl) ?_
          refine q rfl rfl (lss rfl rfl) ?_
          refine TL.nil (nt ?_)
          first | refine TC.condD rfl (fun hml => ?_) (fun hml => ?_) | refine TC.cond rfl (fun hml => ?_) (fun hml => ?_)
          · have hml2 : m < dl.length := by omega
            obtain ⟨z, hz⟩ : ∃ z, dl[m]? = some z := ⟨_, List.getElem?_eq_getElem hml2⟩
            have hposd : 0 < (ints dl).length := by omega
            have hzn := hZn z (List.mem_of_getElem? hz)
            have hpz : prioS Z z = -1 := by rw [prioS, findS_no hzn]
            have hlz : leftS Z z = 0 := by rw [leftS, findS_no hzn]
            have hrz : runS Z = z → z = -1 := fun e => by
              cases ht : topS Z with
              | none => rw [runS, ht] at e; exact e.symm
              | some t => rw [runS, ht] at e; exact absurd ⟨t, (top_mem ht).1, e⟩ hzn
            refine TC.skip (nt ?_)
            refine TC.seq ?_
            refine TC.block ?_
            refine TC.seq ?_
            refine TC.draw _ [] [(0, false), (2, false), (3, false), (4, false), (5, false), (1, true), (6, false), (7, false), (8, false), (9, false), (10, false), (11, false), (12, false), (13, false), (14, false), (15, false), (16, false), (17, false), (18, false), (19, false), (20, true), (21, false), (22, false), (23, false), (24, false), (25, false), (26, false), (27, false), (28, false), (29, true), (30, false), (31, false)] (by kernel_rfl) (by kernel_rfl) (ent_take 3 rfl (ent_nil _)) ?_
            refine dq rfl rfl rfl (mv (v := .pointer _) rfl) ?_
            refine dq rfl rfl rfl (mv (v := .slice _ _ _) rfl) ?_
            refine dq rfl rfl rfl (mv (v := .int _ _) rfl) ?_
            first | refine dq rfl rfl rfl (ixS 3 1 rfl rfl rfl (by omega) (by first | assumption | (simp [ints_length] <;> omega))) ?_ | refine dq rfl rfl rfl (ixJ 3 1 rfl rfl rfl (by omega) (by omega) (by first | assumption | (simp [ints_length] <;> omega))) ?_ | refine dq rfl rfl rfl (ix 3 1 rfl rfl rfl (by omega) (by omega) rfl) ?_
            first | refine dq rfl rfl rfl (ld rfl rfl rfl) ?_ | refine dq rfl rfl rfl (ldS rfl rfl (ints_get hz)) ?_ | refine dq rfl rfl rfl (ldS rfl rfl rfl) ?_
            refine de rfl rfl ?_
            refine cl (run_ok a Z (by omega)) rfl (picked_cons 2 rfl (picked_nil _)) trivial ?_
            intro _ _
            change ent _ _ ∧ TD _ _ _ _ _ _ _ _ _ _ (sepL [_, _, _, _])
            refine ⟨(by repeat (first | exact ent_nil _ | refine ent_take 0 rfl ?_ | refine ent_take 1 rfl ?_ | refine ent_take 2 rfl ?_ | refine ent_take 3 rfl ?_ | refine ent_take 4 rfl ?_ | refine ent_take 5 rfl ?_ | refine ent_take 6 rfl ?_ | refine ent_take 7 rfl ?_)), ?_⟩
            refine dq rfl rfl rfl (eqI rfl rfl) ?_
            refine dq rfl rfl rfl (mv (v := .bool _) rfl) ?_
            refine TD.split 118 rfl (fun hr => ?_) (fun hr => ?_)
            · have hr := of_decide_eq_true hr
              have hz1 := hrz hr
              refine dg rfl rfl rfl rfl (mv (v := .slice _ _ _) rfl) ?_
              refine dg rfl rfl rfl rfl (mv (v := .int _ _) rfl) ?_
              first | refine dg rfl rfl rfl rfl (ixS 3 1 rfl rfl rfl (by omega) (by first | assumption | (simp [ints_length] <;> omega))) ?_ | refine dg rfl rfl rfl rfl (ixJ 3 1 rfl rfl rfl (by omega) (by omega) (by first | assumption | (simp [ints_length] <;> omega))) ?_ | refine dg rfl rfl rfl rfl (ix 3 1 rfl rfl rfl (by omega) (by omega) rfl) ?_
              first | refine dg rfl rfl rfl rfl (ld rfl rfl rfl) ?_ | refine dg rfl rfl rfl rfl (ldS rfl rfl (ints_get hz)) ?_ | refine dg rfl rfl rfl rfl (ldS rfl rfl rfl) ?_
              refine dg rfl rfl rfl rfl (geq rfl rfl) ?_
              first | refine dq rfl rfl rfl (pkT rfl rfl) ?_ | refine dq rfl rfl rfl (pkF rfl rfl) ?_
              refine dq rfl rfl rfl (mv (v := .bool _) rfl) ?_
              refine TD.known 125 rfl (b' := false) (decide_eq_false (by omega)) ?_
              refine dg rfl rfl rfl rfl (mv (v := .pointer _) rfl) ?_
              refine dg rfl rfl rfl rfl (mv (v := .slice _ _ _) rfl) ?_
              refine dg rfl rfl rfl rfl (mv (v := .int _ _) rfl) ?_
              first | refine dg rfl rfl rfl rfl (ixS 3 1 rfl rfl rfl (by omega) (by first | assumption | (simp [ints_length] <;> omega))) ?_ | refine dg rfl rfl rfl rfl (ixJ 3 1 rfl rfl rfl (by omega) (by omega) (by first | assumption | (simp [ints_length] <;> omega))) ?_ | refine dg rfl rfl rfl rfl (ix 3 1 rfl rfl rfl (by omega) (by omega) rfl) ?_
              first | refine dg rfl rfl rfl rfl (ld rfl rfl rfl) ?_ | refine dg rfl rfl rfl rfl (ldS rfl rfl (ints_get hz)) ?_ | refine dg rfl rfl rfl rfl (ldS rfl rfl rfl) ?_
              refine deg rfl rfl rfl ?_
              refine cl (qprio_ok a Z (by omega) z) rfl (picked_cons 0 rfl (picked_nil _)) trivial ?_
              intro _ _
              change ent _ _ ∧ TD _ _ _ _ _ _ _ _ _ _ (sepL [_, _, _, _])
              refine ⟨(by repeat (first | exact ent_nil _ | refine ent_take 0 rfl ?_ | refine ent_take 1 rfl ?_ | refine ent_take 2 rfl ?_ | refine ent_take 3 rfl ?_ | refine ent_take 4 rfl ?_ | refine ent_take 5 rfl ?_ | refine ent_take 6 rfl ?_ | refine ent_take 7 rfl ?_)), ?_⟩
              rw [hpz]
              refine dg rfl rfl rfl rfl (neI rfl rfl) ?_
              first | refine dq rfl rfl rfl (pkT rfl rfl) ?_ | refine dq rfl rfl rfl (pkF rfl rfl) ?_
              refine dq rfl rfl rfl (mv (v := .bool _) rfl) ?_
              refine TD.known 134 rfl (b' := false) (by decide) ?_
              refine dg rfl rfl rfl rfl (mv (v := .pointer _) rfl) ?_
              refine dg rfl rfl rfl rfl (mv (v := .slice _ _ _) rfl) ?_
              refine dg rfl rfl rfl rfl (mv (v := .int _ _) rfl) ?_
              first | refine dg rfl rfl rfl rfl (ixS 3 1 rfl rfl rfl (by omega) (by first | assumption | (simp [ints_length] <;> omega))) ?_ | refine dg rfl rfl rfl rfl (ixJ 3 1 rfl rfl rfl (by omega) (by omega) (by first | assumption | (simp [ints_length] <;> omega))) ?_ | refine dg rfl rfl rfl rfl (ix 3 1 rfl rfl rfl (by omega) (by omega) rfl) ?_
              first | refine dg rfl rfl rfl rfl (ld rfl rfl rfl) ?_ | refine dg rfl rfl rfl rfl (ldS rfl rfl (ints_get hz)) ?_ | refine dg rfl rfl rfl rfl (ldS rfl rfl rfl) ?_
              refine deg rfl rfl rfl ?_
              refine cl (qleft_ok a Z (by omega) z) rfl (picked_cons 0 rfl (picked_nil _)) trivial ?_
              intro _ _
              change ent _ _ ∧ TD _ _ _ _ _ _ _ _ _ _ (sepL [_, _, _, _])
              refine ⟨(by repeat (first | exact ent_nil _ | refine ent_take 0 rfl ?_ | refine ent_take 1 rfl ?_ | refine ent_take 2 rfl ?_ | refine ent_take 3 rfl ?_ | refine ent_take 4 rfl ?_ | refine ent_take 5 rfl ?_ | refine ent_take 6 rfl ?_ | refine ent_take 7 rfl ?_)), ?_⟩
              rw [hlz]
              refine dg rfl rfl rfl rfl (neI rfl rfl) ?_
              first | refine dq rfl rfl rfl (pkT rfl rfl) ?_ | refine dq rfl rfl rfl (pkF rfl rfl) ?_
              refine TD.nil (nt ?_)
              refine TC.condD rfl (fun hc1 => absurd hc1 (by decide)) (fun hc1 => ?_)
              refine TC.skip (nb (nt ?_))
              refine TC.region ?_
              refine q rfl rfl (mv (v := .int _ _) rfl) ?_
              first | refine q rfl rfl (addI rfl rfl (by omega) (by omega)) ?_ | refine q rfl rfl (add rfl rfl rfl) ?_
              refine q rfl rfl (asg (v := .int _ _) rfl) ?_
              refine TL.nil (nt ?_)
              exact ⟨rfl, (m + 1), (by omega), (by omega), ⟨rfl, rfl, rfl, rfl, rfl, rfl, rfl, trivial⟩, (ent_take 1 rfl (ent_take 1 rfl (ent_take 0 rfl (ent_take 0 rfl (ent_nil _)))))⟩
            · have hr := of_decide_eq_false hr
              refine dk rfl rfl rfl rfl ?_
              refine dk rfl rfl rfl rfl ?_
              refine dk rfl rfl rfl rfl ?_
              refine dk rfl rfl rfl rfl ?_
              refine dk rfl rfl rfl rfl ?_
              first | refine dq rfl rfl rfl (pkT rfl rfl) ?_ | refine dq rfl rfl rfl (pkF rfl rfl) ?_
              refine dq rfl rfl rfl (mv (v := .bool _) rfl) ?_
              refine TD.known 125 rfl (b' := false) rfl ?_
              refine dg rfl rfl rfl rfl (mv (v := .pointer _) rfl) ?_
              refine dg rfl rfl rfl rfl (mv (v := .slice _ _ _) rfl) ?_
              refine dg rfl rfl rfl rfl (mv (v := .int _ _) rfl) ?_
              first | refine dg rfl rfl rfl rfl (ixS 3 1 rfl rfl rfl (by omega) (by first | assumption | (simp [ints_length] <;> omega))) ?_ | refine dg rfl rfl rfl rfl (ixJ 3 1 rfl rfl rfl (by omega) (by omega) (by first | assumption | (simp [ints_length] <;> omega))) ?_ | refine dg rfl rfl rfl rfl (ix 3 1 rfl rfl rfl (by omega) (by omega) rfl) ?_
              first | refine dg rfl rfl rfl rfl (ld rfl rfl rfl) ?_ | refine dg rfl rfl rfl rfl (ldS rfl rfl (ints_get hz)) ?_ | refine dg rfl rfl rfl rfl (ldS rfl rfl rfl) ?_
              refine deg rfl rfl rfl ?_
              refine cl (qprio_ok a Z (by omega) z) rfl (picked_cons 0 rfl (picked_nil _)) trivial ?_
              intro _ _
              change ent _ _ ∧ TD _ _ _ _ _ _ _ _ _ _ (sepL [_, _, _, _])
              refine ⟨(by repeat (first | exact ent_nil _ | refine ent_take 0 rfl ?_ | refine ent_take 1 rfl ?_ | refine ent_take 2 rfl ?_ | refine ent_take 3 rfl ?_ | refine ent_take 4 rfl ?_ | refine ent_take 5 rfl ?_ | refine ent_take 6 rfl ?_ | refine ent_take 7 rfl ?_)), ?_⟩
              rw [hpz]
              refine dg rfl rfl rfl rfl (neI rfl rfl) ?_
              first | refine dq rfl rfl rfl (pkT rfl rfl) ?_ | refine dq rfl rfl rfl (pkF rfl rfl) ?_
              refine dq rfl rfl rfl (mv (v := .bool _) rfl) ?_
              refine TD.known 134 rfl (b' := false) (by decide) ?_
              refine dg rfl rfl rfl rfl (mv (v := .pointer _) rfl) ?_
              refine dg rfl rfl rfl rfl (mv (v := .slice _ _ _) rfl) ?_
              refine dg rfl rfl rfl rfl (mv (v := .int _ _) rfl) ?_
              first | refine dg rfl rfl rfl rfl (ixS 3 1 rfl rfl rfl (by omega) (by first | assumption | (simp [ints_length] <;> omega))) ?_ | refine dg rfl rfl rfl rfl (ixJ 3 1 rfl rfl rfl (by omega) (by omega) (by first | assumption | (simp [ints_length] <;> omega))) ?_ | refine dg rfl rfl rfl rfl (ix 3 1 rfl rfl rfl (by omega) (by omega) rfl) ?_
              first | refine dg rfl rfl rfl rfl (ld rfl rfl rfl) ?_ | refine dg rfl rfl rfl rfl (ldS rfl rfl (ints_get hz)) ?_ | refine dg rfl rfl rfl rfl (ldS rfl rfl rfl) ?_
              refine deg rfl rfl rfl ?_
              refine cl (qleft_ok a Z (by omega) z) rfl (picked_cons 0 rfl (picked_nil _)) trivial ?_
              intro _ _
              change ent _ _ ∧ TD _ _ _ _ _ _ _ _ _ _ (sepL [_, _, _, _])
              refine ⟨(by repeat (first | exact ent_nil _ | refine ent_take 0 rfl ?_ | refine ent_take 1 rfl ?_ | refine ent_take 2 rfl ?_ | refine ent_take 3 rfl ?_ | refine ent_take 4 rfl ?_ | refine ent_take 5 rfl ?_ | refine ent_take 6 rfl ?_ | refine ent_take 7 rfl ?_)), ?_⟩
              rw [hlz]
              refine dg rfl rfl rfl rfl (neI rfl rfl) ?_
              first | refine dq rfl rfl rfl (pkT rfl rfl) ?_ | refine dq rfl rfl rfl (pkF rfl rfl) ?_
              refine TD.nil (nt ?_)
              refine TC.condD rfl (fun hc2 => absurd hc2 (by decide)) (fun hc2 => ?_)
              refine TC.skip (nb (nt ?_))
              refine TC.region ?_
              refine q rfl rfl (mv (v := .int _ _) rfl) ?_
              first | refine q rfl rfl (addI rfl rfl (by omega) (by omega)) ?_ | refine q rfl rfl (add rfl rfl rfl) ?_
              refine q rfl rfl (asg (v := .int _ _) rfl) ?_
              refine TL.nil (nt ?_)
              exact ⟨rfl, (m + 1), (by omega), (by omega), ⟨rfl, rfl, rfl, rfl, rfl, rfl, rfl, trivial⟩, (ent_take 1 rfl (ent_take 1 rfl (ent_take 0 rfl (ent_take 0 rfl (ent_nil _)))))⟩
          · refine TC.exit (et (et (eb (nt ?_))))
            refine TC.seq ?_
            refine TC.seq ?_
            refine TC.region ?_
            refine q rfl rfl (asg (v := .int _ _) rfl) ?_
            refine TL.nil (nt ?_)
            refine TC.block ?_
            refine TC.loop (ι := Nat) (fun p => p ≤ 8) (fun p => [(1, .slice a2 dl.length c2), (5, .pointer (some ⟨a, 0, none⟩)), (7, .pointer (some ⟨b1, 0, none⟩)), (8, .pointer (some ⟨b2, 0, none⟩)), (14, .int .i64 S.length), (15, .int .i64 ((S.length : Int) - Z.length)), (17, .int .i64 (p : Int))]) (fun p => sepL [arr8 b1 (RA S dl 8 0), arr8 b2 (LA S dl 8 0), isQ a Z, F]) (fun p => 8 - p) 0 (by omega) ⟨rfl, rfl, rfl, rfl, rfl, rfl, rfl, trivial⟩ (ent_take 0 rfl (ent_take 0 rfl (ent_take 0 rfl (ent_take 0 rfl (ent_nil _))))) ?_
            rintro p hp ρ1
            dsimp only [updL] at hp ⊢
            refine TC.seq ?_
            refine TC.seq ?_
            refine TC.region ?_
            refine q rfl rfl (mv (v := .int _ _) rfl) ?_
            refine q rfl rfl (lss rfl rfl) ?_
            refine TL.nil (nt ?_)
            first | refine TC.condD rfl (fun hp7 => ?_) (fun hp7 => ?_) | refine TC.cond rfl (fun hp7 => ?_) (fun hp7 => ?_)
            · have hp8 : p < 8 := by omega
              have hrR : rowR Z (p : Int) = rowA Z p := by rw [rowR, if_pos (by omega), Int.toNat_natCast]
              have hrl := rowA_len Z p
              have hil := ints_length (rowA Z p)
              have hzr := hZr p hp8
              obtain ⟨L, hL, hLn⟩ := range_perm hp8
              refine TC.skip (nt ?_)
              refine TC.seq ?_
              refine TC.block ?_
              refine TC.seq ?_
              refine TC.region ?_
              refine q rfl rfl (mv (v := .pointer _) rfl) ?_
              refine q rfl rfl (mv (v := .int _ _) rfl) ?_
              refine e rfl ?_
              refine cl (row_ok a Z (by omega) (p : Int)) rfl (picked_cons 2 rfl (picked_nil _)) trivial ?_
              intro y _
              change TL _ _ _ _ _ _ _ _ (sepL [_, _, _, _, _])
              rw [hrR]
              refine q rfl rfl (asg (v := .slice _ _ _) rfl) ?_
              refine TL.nil (nt ?_)
              refine TC.seq ?_
              refine TC.seq ?_
              refine TC.open 2 rfl (fun x0 hx0 => ?_)
              obtain ⟨ra, rc⟩ := x0
              clear hx0
              change TC _ _ _ _ _ _ _ (sepL [_, _, _, _, _, _])
              dsimp only
              refine TC.weak (ent_openB 1 rfl hL) ?_
              refine TC.region ?_
              refine q rfl rfl (mv (v := .slice _ _ _) rfl) ?_
              refine q rfl rfl (mv (v := .int _ _) rfl) ?_
              refine q rfl rfl (ixAl 8 29 1 rfl rfl rfl (by omega) (by omega)) ?_
              first | refine q rfl rfl (ld rfl rfl rfl) ?_ | refine q rfl rfl (ld rfl rfl (rows_ld hp8 (by omega))) ?_ | refine q rfl rfl (ldS rfl rfl rfl) ?_
              refine e rfl ?_
              refine cl (same_ok y.1 _ (rowA Z p) (ra p) _ (RA S dl 8 0 p) (by omega)) rfl (picked_nil _) ⟨⟨_, RdSI.rd (ad := y.1)⟩, ⟨_, RdSI.rd (ad := ra p)⟩⟩ ?_
              intro _ _
              change TL _ _ _ _ _ _ _ _ (sepL [_, _, _, _, _, _, _])
              rw [decide_eq_true hzr.symm]
              first | refine q rfl rfl (notD rfl) ?_ | refine q rfl rfl (notB rfl) ?_
              refine TL.nil (nt ?_)
              refine TC.condF rfl ?_
              refine TC.skip (nt ?_)
              refine TC.seq ?_
              refine TC.region ?_
              refine q rfl rfl (asg (v := .int _ _) rfl) ?_
              refine TL.nil (nt ?_)
              refine TC.block ?_
              refine TC.loop (ι := Nat) (fun k => k ≤ (rowA Z p).length) (fun k => [(1, .slice a2 dl.length c2), (5, .pointer (some ⟨a, 0, none⟩)), (7, .pointer (some ⟨b1, 0, none⟩)), (8, .pointer (some ⟨b2, 0, none⟩)), (14, .int .i64 S.length), (15, .int .i64 ((S.length : Int) - Z.length)), (17, .int .i64 (p : Int)), (18, .slice y.1 (rowA Z p).length y.2), (19, .int .i64 (k : Int))]) (fun k => sepL [arr8 b1 (RA S dl 8 0), arr8 b2 (LA S dl 8 0), slc 3 1 y.1 (rowA Z p).length y.2 (ints (rowA Z p)), isQ a Z, F]) (fun k => (rowA Z p).length - k) 0 (Nat.zero_le _) ⟨rfl, rfl, rfl, rfl, rfl, rfl, rfl, rfl, rfl, trivial⟩ (ent_close ⟨ra, rc⟩ trivial (ent_take 2 rfl (ent_closeB 0 0 p rfl rfl rfl (fun _ _ => rfl) hL.symm (ent_take 2 rfl (ent_take 0 rfl (ent_take 0 rfl (ent_take 0 rfl (ent_nil _)))))))) ?_
              rintro k hk ρ2
              dsimp only [updL] at hk ⊢
              refine TC.seq ?_
              refine TC.seq ?_
              refine TC.region ?_
              refine q rfl rfl (mv (v := .int _ _) rfl) ?_
              refine q rfl rfl (mv (v := .slice _ _ _) rfl) ?_
              refine q rfl rfl (len 3 1 rfl rfl) ?_
              refine q rfl rfl (lss rfl rfl) ?_
              refine TL.nil (nt ?_)
              first | refine TC.condD rfl (fun hkl => ?_) (fun hkl => ?_) | refine TC.cond rfl (fun hkl => ?_) (fun hkl => ?_)
              · have hkl2 : k < (rowA Z p).length := by omega
                obtain ⟨x, hx⟩ : ∃ x, (rowA Z p)[k]? = some x := ⟨_, List.getElem?_eq_getElem hkl2⟩
                have hpos2 : 0 < (ints (rowA Z p)).length := by omega
                have hlx := hZl p hp8 k x hx
                have hlen2 : (LA S dl 8 0 p).length = (rowA Z p).length := by rw [LA, List.length_map, hzr]
                have hpos3 : 0 < (ints (LA S dl 8 0 p)).length := by rw [ints_length]; omega
                refine TC.open 1 rfl (fun x0 hx0 => ?_)
                obtain ⟨rb, rd⟩ := x0
                clear hx0
                change TC _ _ _ _ _ _ _ (sepL [_, _, _, _, _, _])
                dsimp only
                refine TC.weak (ent_openB 1 rfl hL) ?_
                refine TC.skip (nt ?_)
                refine TC.seq ?_
                refine TC.block ?_
                refine TC.seq ?_
                refine TC.draw _ [] [(0, false), (1, false), (2, false), (3, false), (4, false), (6, false), (7, false), (8, false), (9, false), (10, false), (11, false), (5, true), (12, false)] (by kernel_rfl) (by kernel_rfl) (ent_take 0 rfl (ent_take 1 rfl (ent_take 2 rfl (ent_nil _)))) ?_
                refine dq rfl rfl rfl (mv (v := .pointer _) rfl) ?_
                refine dq rfl rfl rfl (mv (v := .slice _ _ _) rfl) ?_
                refine dq rfl rfl rfl (mv (v := .int _ _) rfl) ?_
                first | refine dq rfl rfl rfl (ixS 3 1 rfl rfl rfl (by omega) (by first | assumption | (simp [ints_length] <;> omega))) ?_ | refine dq rfl rfl rfl (ixJ 3 1 rfl rfl rfl (by omega) (by omega) (by first | assumption | (simp [ints_length] <;> omega))) ?_ | refine dq rfl rfl rfl (ix 3 1 rfl rfl rfl (by omega) (by omega) rfl) ?_
                first | refine dq rfl rfl rfl (ld rfl rfl rfl) ?_ | refine dq rfl rfl rfl (ld rfl rfl (rows_ld hp8 (by omega))) ?_ | refine dq rfl rfl rfl (ldS rfl rfl (ints_get hx)) ?_ | refine dq rfl rfl rfl (ldS rfl rfl (ints_get hlx)) ?_ | refine dq rfl rfl rfl (ldS rfl rfl rfl) ?_
                refine dq rfl rfl rfl (mv (v := .int _ _) rfl) ?_
                refine dq rfl rfl rfl (ixAl 8 29 1 rfl rfl rfl (by omega) (by omega)) ?_
                first | refine dq rfl rfl rfl (ld rfl rfl rfl) ?_ | refine dq rfl rfl rfl (ld rfl rfl (rows_ld hp8 (by omega))) ?_ | refine dq rfl rfl rfl (ldS rfl rfl (ints_get hx)) ?_ | refine dq rfl rfl rfl (ldS rfl rfl (ints_get hlx)) ?_ | refine dq rfl rfl rfl (ldS rfl rfl rfl) ?_
                refine dq rfl rfl rfl (mv (v := .int _ _) rfl) ?_
                first | refine dq rfl rfl rfl (ixS 3 1 rfl rfl rfl (by omega) (by first | assumption | (simp [ints_length] <;> omega))) ?_ | refine dq rfl rfl rfl (ixJ 3 1 rfl rfl rfl (by omega) (by omega) (by first | assumption | (simp [ints_length] <;> omega))) ?_ | refine dq rfl rfl rfl (ix 3 1 rfl rfl rfl (by omega) (by omega) rfl) ?_
                first | refine dq rfl rfl rfl (ld rfl rfl rfl) ?_ | refine dq rfl rfl rfl (ld rfl rfl (rows_ld hp8 (by omega))) ?_ | refine dq rfl rfl rfl (ldS rfl rfl (ints_get hx)) ?_ | refine dq rfl rfl rfl (ldS rfl rfl (ints_get hlx)) ?_ | refine dq rfl rfl rfl (ldS rfl rfl rfl) ?_
                refine de rfl rfl ?_
                refine cl (qleft_ok a Z (by omega) x) rfl (picked_cons 5 rfl (picked_nil _)) trivial ?_
                intro _ _
                change ent _ _ ∧ TD _ _ _ _ _ _ _ _ _ _ (sepL [_, _, _, _, _, _, _])
                refine ⟨(by repeat (first | exact ent_nil _ | refine ent_take 0 rfl ?_ | refine ent_take 1 rfl ?_ | refine ent_take 2 rfl ?_ | refine ent_take 3 rfl ?_ | refine ent_take 4 rfl ?_ | refine ent_take 5 rfl ?_ | refine ent_take 6 rfl ?_ | refine ent_take 7 rfl ?_)), ?_⟩
                refine dq rfl rfl rfl (neI rfl rfl) ?_
                refine TD.nil (nt ?_)
                refine TC.condD rfl (fun hc3 => absurd hc3 (by simp)) (fun hc3 => ?_)
                refine TC.skip (nb (nt ?_))
                refine TC.region ?_
                refine q rfl rfl (mv (v := .int _ _) rfl) ?_
                first | refine q rfl rfl (addI rfl rfl (by omega) (by omega)) ?_ | refine q rfl rfl (add rfl rfl rfl) ?_
                refine q rfl rfl (asg (v := .int _ _) rfl) ?_
                refine TL.nil (nt ?_)
                exact ⟨rfl, (k + 1), (by omega), (by omega), ⟨rfl, rfl, rfl, rfl, rfl, rfl, rfl, rfl, rfl, trivial⟩, (ent_take 4 rfl (ent_close ⟨rb, rd⟩ trivial (ent_take 3 rfl (ent_closeB 1 1 p rfl rfl rfl (fun _ _ => rfl) hL.symm (ent_take 1 rfl (ent_take 0 rfl (ent_take 0 rfl (ent_nil _))))))))⟩
              · refine TC.exit (et (et (eb (nb (nt ?_)))))
                refine TC.region ?_
                refine q rfl rfl (mv (v := .int _ _) rfl) ?_
                first | refine q rfl rfl (addI rfl rfl (by omega) (by omega)) ?_ | refine q rfl rfl (add rfl rfl rfl) ?_
                refine q rfl rfl (asg (v := .int _ _) rfl) ?_
                refine TL.nil (nt ?_)
                exact ⟨rfl, (p + 1), (by omega), (by omega), ⟨rfl, rfl, rfl, rfl, rfl, rfl, rfl, trivial⟩, (ent_take 0 rfl (ent_take 0 rfl (ent_take 1 rfl (ent_take 1 rfl (ent_nil _)))))⟩
            · refine TC.exit (et (et (eb (nt ?_))))
              refine TC.seq ?_
              refine TC.region ?_
              refine q rfl rfl (mv (v := .pointer _) rfl) ?_
              refine e rfl ?_
              refine cl (qlen_ok a Z (by omega)) rfl (picked_cons 2 rfl (picked_nil _)) trivial ?_
              intro _ _
              change TL _ _ _ _ _ _ _ _ (sepL [_, _, _, _])
              refine q rfl rfl (mv (v := .int _ _) rfl) ?_
              refine q rfl rfl (mv (v := .int _ _) rfl) ?_
              first | refine q rfl rfl (subI rfl rfl (by omega) (by omega)) ?_ | refine q rfl rfl (sub rfl rfl rfl) ?_
              refine q rfl rfl (eqI rfl rfl) ?_
              refine q rfl rfl (mv (v := .bool _) rfl) ?_
              refine TL.known 181 rfl (c := true) (decide_eq_true (by omega)) ?_
              refine qg rfl rfl rfl (mv (v := .pointer _) rfl) ?_
              refine qg rfl rfl rfl (mv (v := .slice _ _ _) rfl) ?_
              refine eg rfl rfl ?_
              refine cl (drop_ok a Z (by omega) a2 c2 dl (by omega)) rfl (picked_cons 0 rfl (picked_nil _)) ⟨_, RdSI.rd (ad := a2)⟩ ?_
              intro _ _
              change TL _ _ _ _ _ _ _ _ (sepL [_, _, _, _])
              rw [hZd]
              refine qg rfl rfl rfl (eqI rfl rfl) ?_
              first | refine q rfl rfl (pkT rfl rfl) ?_ | refine q rfl rfl (pkF rfl rfl) ?_
              refine q rfl rfl (asg (v := .bool _) rfl) ?_
              refine TL.nil (nt ?_)
              refine TC.ret ?_
              exact Ret.i () [_] ⟨rfl, trivial⟩ (congrArg Value.bool (decide_eq_true (by omega))) trivial (ent_take 3 rfl (ent_nil _))
  · rw [decide_eq_false hfit]
    first | refine q rfl rfl (notD rfl) ?_ | refine q rfl rfl (notB rfl) ?_
    refine q rfl rfl (mv (v := .bool _) rfl) ?_
    refine TL.known 25 rfl (c := true) rfl ?_
    refine qs rfl rfl ?_
    refine qs rfl rfl ?_
    refine qs rfl rfl ?_
    first | refine q rfl rfl (pkT rfl rfl) ?_ | refine q rfl rfl (pkF rfl rfl) ?_
    refine TL.nil (nt ?_)
    refine TC.condT rfl ?_
    refine TC.seq ?_
    refine TC.region ?_
    refine q rfl rfl (asg (v := .bool _) rfl) ?_
    refine TL.nil (nt ?_)
    refine TC.ret (rt ?_)
    exact Ret.i () [_] ⟨rfl, trivial⟩ rfl trivial (ent_take 0 rfl (ent_nil _))

end Go.Proofs.Ytncafknmdmoaoaa
