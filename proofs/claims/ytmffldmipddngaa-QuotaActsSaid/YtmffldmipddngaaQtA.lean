/-
  Proved here: what functions of this program compute, each as a contract over symbolic states, under the premises that each theorem names (most lines printed by a program of the prover).
-/
import Derived.Test.YtmffldmipddngaaQtP
namespace Go.Proofs.Ytmffldmipddngaa
open Go Go.QM
section
variable {α : Type} [DecidableEq α] {enc : α → Value} {f : α → Option Value} {n : Nat}
variable {r : Option Nat} {P : Program} {ρ : Env} {K : Value → HP → Prop}
variable {d : Option Tmp} {ty : TypeId} {ps : String} {af : Array Edge} {g : Option (Nat × Bool)}
variable {t : TypeId} {x y z : Operand}
theorem insF {hs rest : List HP} (kt e : TypeId) {b : Nat} {a : α} {v : Value} (ht : mapT P t kt e = true) (hk : KL P kt enc) (hx : ev ρ x = .map (some b)) (hy : ev ρ y = enc a) (hv : ev ρ z = v) [hi : TkF hs b enc f n rest]
    (k : K undef (sepL (mapF enc b (updF f a v) (if (f a).isSome then n else n + 1) :: rest))) : OW r P ρ ⟨d, .insert t x y z, ty, ps, af, g⟩ (sepL hs) K := fun w0 w he hs => by
  have h := ((muF (d := d) (ty := ty) (ps := ps) (af := af) (g := g) kt e ht hk hx hy hv k : OW r P ρ ⟨d, .mapUpdate t x y z, ty, ps, af, g⟩ (sepL _) K) w0 w he hs).2
  refine ⟨fun _ _ => trivial, ?_⟩
  rw [semAt_nd _ rfl] at h ⊢
  exact h
end
abbrev tQ (A : Int → Nat) (L : List Qn) (t : Qn) : HP := pts (A t.id) 58 [.int .i64 t.lim, .int .i64 t.chg, .int .i64 (givQ L t.id), .int .i64 t.par, .int .i64 (kidQ L t.id)]
def fQ (A : Int → Nat) (L : List Qn) : Int → Option Value := fun x => if hasQ L x then some (.pointer (some ⟨A x, 0, none⟩)) else none
theorem fQ_yes {A : Int → Nat} {L : List Qn} {x : Int} (h : hasQ L x) : fQ A L x = some (.pointer (some ⟨A x, 0, none⟩)) := if_pos h
theorem fQ_no {A : Int → Nat} {L : List Qn} {x : Int} (h : ¬ hasQ L x) : fQ A L x = none := if_neg h
structure QRep where
  A : Int → Nat
  mb : Nat
def isQ (b : Nat) (L : List Qn) (nxt : Int) : HP := EX fun y : QRep => pure' (WQ L nxt) (sepL [pts b 61 [.map (some y.mb), .int .i64 nxt], mapF QM.encI y.mb (fQ y.A L) L.length, bigS (tQ y.A L) L])
theorem Rd_big {α : Type} {f : α → HP} {b : Nat} {o : Obj} : ∀ {L : List α} {x : α}, x ∈ L → Rd (f x) b o → Rd (bigS f L) b o
  | a :: L, x, h, r => by
    rcases List.mem_cons.1 h with rfl | h
    · exact Rd_here r
    · exact Rd_next (Rd_big h r)
theorem tQ_rd {A : Int → Nat} {L : List Qn} {t : Qn} (h : t ∈ L) : RdI (bigS (tQ A L) L) (A t.id) (.cells (List.toArray [.int .i64 t.lim, .int .i64 t.chg, .int .i64 (givQ L t.id), .int .i64 t.par, .int .i64 (kidQ L t.id)]) 58 (0, 0)) := ⟨Rd_big h (Rd_pts _ _ _)⟩
theorem sumI_snoc {xs : List Int} {k : Nat} {x : Int} (h : xs[k]? = some x) : sumI (xs.take (k + 1)) = sumI (xs.take k) + x := by
  rw [List.take_add_one, h, Option.toList, sumI_app]; simp [sumI]
theorem fQ_add (A : Int → Nat) (L : List Qn) (t : Qn) (b : Nat) : fQ (updI A t.id b) (L ++ [t]) = updF (fQ A L) t.id (.pointer (some ⟨b, 0, none⟩)) := by
  funext y
  simp only [fQ, updF]
  by_cases e : y = t.id
  · rw [if_pos e, if_pos ⟨t, by simp, e.symm⟩, e, updI_same]
  · rw [if_neg e, updI_ne e]
    by_cases h : hasQ L y
    · rw [if_pos h, if_pos]; obtain ⟨u, hu, hh⟩ := h; exact ⟨u, by simp [hu], hh⟩
    · rw [if_neg h, if_neg]
      rintro ⟨u, hu, hh⟩
      rcases List.mem_append.1 hu with hu | hu
      · exact h ⟨u, hu, hh⟩
      · rw [List.mem_singleton.1 hu] at hh; exact e hh.symm
theorem fQ_off (A : Int → Nat) (L : List Qn) (x : Int) : fQ A (offQ L x) = delF (fQ A L) x := by
  funext y
  simp only [fQ, delF]
  by_cases e : y = x
  · rw [if_pos e, if_neg]; rintro ⟨u, hu, hh⟩; exact (offQ_mem.1 hu).2 (hh.trans e)
  · rw [if_neg e]
    by_cases h : hasQ L y
    · rw [if_pos h, if_pos]; obtain ⟨u, hu, hh⟩ := h; exact ⟨u, offQ_mem.2 ⟨hu, by rw [hh]; exact e⟩, hh⟩
    · rw [if_neg h, if_neg]; rintro ⟨u, hu, hh⟩; exact h ⟨u, (offQ_mem.1 hu).1, hh⟩
theorem fQ_set (A : Int → Nat) (L : List Qn) (x c : Int) : fQ A (setQ L x c) = fQ A L := by
  funext y
  simp only [fQ, setQ_has]
theorem setQ_len (L : List Qn) (x c : Int) : (setQ L x c).length = L.length := by rw [setQ, List.length_map]
theorem setQ_perm {L M : List Qn} {t : Qn} (h : NdQ L) (hM : L.Perm (t :: M)) (c : Int) : ((⟨t.id, t.par, t.lim, c⟩ : Qn) :: M).Perm (setQ L t.id c) := by
  have h1 := hM.map fun u : Qn => if u.id = t.id then ⟨u.id, u.par, u.lim, c⟩ else u
  rw [List.map_cons, if_pos rfl] at h1
  have h2 : M.map (fun u : Qn => if u.id = t.id then (⟨u.id, u.par, u.lim, c⟩ : Qn) else u) = M := by
    conv => rhs; rw [← List.map_id M]
    refine List.map_congr_left fun u hu => ?_
    have := (List.nodup_cons.1 (h.perm hM.symm)).1
    rw [if_neg (fun e => this (List.mem_map.2 ⟨u, hu, e⟩))]; rfl
  rw [h2] at h1
  exact h1.symm
theorem setQ_one {A : Int → Nat} {L : List Qn} (x c : Int) (u : Qn) : tQ A L u = tQ A (setQ L x c) u := by
  dsimp only [tQ]; rw [(setQ_giv L x c u.id).1, (setQ_giv L x c u.id).2]
theorem WQ.big {L : List Qn} {nxt : Int} (h : WQ L nxt) {t : Qn} (ht : t ∈ L) : 0 ≤ t.lim ∧ t.lim ≤ 1073741824 ∧ 0 ≤ t.chg ∧ t.chg + givQ L t.id ≤ t.lim ∧ 0 ≤ givQ L t.id ∧ 0 ≤ kidQ L t.id ∧ kidQ L t.id ≤ 32 := by
  have h1 := h.rg t ht
  have h2 := givQ_nonneg h t.id
  have h3 := kidQ_le L t.id
  have h4 := h.len
  omega

set_option maxRecDepth 4000 in
theorem qsum_ok (ax : Option Addr) (cx : Nat) (xs : List Int) (hx : ∀ x ∈ xs, 0 ≤ x ∧ x ≤ 1073741824) (hl : xs.length ≤ 1000) : FSpec Try.prog 33 [.slice ax xs.length cx] (fun F => ∃ E, RdS F E ax (ints xs)) [] (fun _ : Unit => .int .i64 (sumI xs)) (fun _ => True) (fun _ => []) := by
  refine FSpec.intro (rs := [.tmp 2]) (by kernel_rfl) Try.func33 rfl Try.ntmps33 (by rfl) rfl ?_
  intro F ⟨E, hF⟩
  change TC _ _ _ _ _ _ _ (sepL [_])
  haveI : RdSI F ax E (ints xs) := ⟨hF⟩
  have hxl := ints_length xs
  refine TC.seq ?_
  refine TC.region ?_
  refine q rfl rfl (asg (v := .int _ _) rfl) ?_
  refine TL.nil (nt ?_)
  refine TC.seq ?_
  refine TC.region ?_
  refine q rfl rfl (asg (v := .int _ _) rfl) ?_
  refine TL.nil (nt ?_)
  refine TC.seq ?_
  refine TC.seq ?_
  refine TC.region ?_
  refine q rfl rfl (mv (v := .slice _ _ _) rfl) ?_
  refine q rfl rfl (len 3 1 rfl rfl) ?_
  refine q rfl rfl (mv (v := .int _ _) rfl) ?_
  refine TL.nil (nt ?_)
  refine TC.block ?_
  refine TC.loop (ι := Nat) (fun k => k ≤ xs.length) (fun k => [(3, .int .i64 (sumI (xs.take k))), (6, .slice ax xs.length cx), (7, .int .i64 xs.length), (8, .int .i64 ((k : Nat) : Int))]) (fun k => sepL [F]) (fun k => xs.length - k) 0 (Nat.zero_le _) ⟨rfl, rfl, rfl, rfl, trivial⟩ (ent_take 0 rfl (ent_nil _)) ?_
  rintro k hk ρ0
  dsimp only [updL] at hk ⊢
  refine TC.seq ?_
  refine TC.region ?_
  refine q rfl rfl (lss rfl rfl) ?_
  refine TL.nil (nt ?_)
  refine TC.seq ?_
  first | refine TC.condD rfl (fun hlt => ?_) (fun hlt => ?_) | refine TC.cond rfl (fun hlt => ?_) (fun hlt => ?_)
  · have hlt2 : k < xs.length := by omega
    obtain ⟨x, hx2⟩ : ∃ x, xs[k]? = some x := ⟨xs[k], List.getElem?_eq_getElem hlt2⟩
    have hpos : 0 < (ints xs).length := by omega
    have hsn := sumI_snoc hx2
    have hxb := hx x (List.mem_of_getElem? hx2)
    have hs0 := sumI_nonneg (l := xs.take k) (fun y hy => (hx y (List.mem_of_mem_take hy)).1)
    have hs1 := sumI_le (l := xs.take k) (fun y hy => (hx y (List.mem_of_mem_take hy)).2)
    have htl : (xs.take k).length ≤ k := by rw [List.length_take]; omega
    refine TC.skip (nt ?_)
    refine TC.seq ?_
    refine TC.block ?_
    refine TC.seq ?_
    refine TC.region ?_
    first | refine q rfl rfl (ixS 3 1 rfl rfl rfl (by omega) (by first | assumption | (simp [ints_length] <;> omega))) ?_ | refine q rfl rfl (ixJ 3 1 rfl rfl rfl (by omega) (by omega) (by first | assumption | (simp [ints_length] <;> omega))) ?_ | refine q rfl rfl (ix 3 1 rfl rfl rfl (by omega) (by omega) rfl) ?_
    first | refine q rfl rfl (ld rfl rfl rfl) ?_ | refine q rfl rfl (ldS rfl rfl (ints_get hx2)) ?_ | refine q rfl rfl (ldS rfl rfl rfl) ?_
    refine q rfl rfl (asg (v := .int _ _) rfl) ?_
    refine TL.nil (nt ?_)
    refine TC.region ?_
    refine q rfl rfl (mv (v := .int _ _) rfl) ?_
    refine q rfl rfl (mv (v := .int _ _) rfl) ?_
    first | refine q rfl rfl (addI rfl rfl (by omega) (by omega)) ?_ | refine q rfl rfl (add rfl rfl rfl) ?_
    refine q rfl rfl (asg (v := .int _ _) rfl) ?_
    refine TL.nil (nb (nt ?_))
    refine TC.region ?_
    first | refine q rfl rfl (addI rfl rfl (by omega) (by omega)) ?_ | refine q rfl rfl (add rfl rfl rfl) ?_
    refine q rfl rfl (mv (v := .int _ _) rfl) ?_
    refine TL.nil (nt ?_)
    exact ⟨rfl, (k + 1), (by omega), (by omega), ⟨by rw [hsn]; rfl, rfl, rfl, rfl, trivial⟩, (by repeat (first | exact ent_nil _ | refine ent_take 0 rfl ?_ | refine ent_take 1 rfl ?_ | refine ent_take 2 rfl ?_ | refine ent_take 3 rfl ?_ | refine ent_take 4 rfl ?_ | refine ent_take 5 rfl ?_ | refine ent_take 6 rfl ?_ | refine ent_take 7 rfl ?_ | refine ent_take 8 rfl ?_ | refine ent_take 9 rfl ?_ | refine ent_take 10 rfl ?_ | refine ent_take 11 rfl ?_ | refine ent_take 12 rfl ?_))⟩
  · obtain rfl : k = xs.length := by omega
    rw [List.take_length]
    refine TC.exit (et (et (eb (nt ?_))))
    refine TC.seq ?_
    refine TC.region ?_
    refine q rfl rfl (mv (v := .int _ _) rfl) ?_
    refine q rfl rfl (asg (v := .int _ _) rfl) ?_
    refine TL.nil (nt ?_)
    refine TC.ret ?_
    exact Ret.i () [_] ⟨rfl, trivial⟩ rfl trivial (ent_take 0 rfl (ent_nil _))

set_option maxRecDepth 4000 in
theorem quse_ok (b : Nat) (l c g pr k : Int) (hc : 0 ≤ c ∧ c ≤ 1073741824) (hg : 0 ≤ g ∧ g ≤ 1073741824) : FSpec Try.prog 29 [.pointer (some ⟨b, 0, none⟩)] (fun F => Rd F b (.cells (List.toArray [.int .i64 l, .int .i64 c, .int .i64 g, .int .i64 pr, .int .i64 k]) 58 (0, 0))) [] (fun _ : Unit => .int .i64 (c + g)) (fun _ => True) (fun _ => []) := by
  refine FSpec.intro (rs := [.tmp 2]) (by kernel_rfl) Try.func29 rfl Try.ntmps29 (by rfl) rfl ?_
  intro F hF
  change TC _ _ _ _ _ _ _ (sepL [_])
  haveI : RdI F b (.cells (List.toArray [.int .i64 l, .int .i64 c, .int .i64 g, .int .i64 pr, .int .i64 k]) 58 (0, 0)) := ⟨hF⟩
  refine TC.seq ?_
  refine TC.region ?_
  refine q rfl rfl (asg (v := .int _ _) rfl) ?_
  refine TL.nil (nt ?_)
  refine TC.seq ?_
  refine TC.draw _ [] [(0, false), (1, false), (2, false), (3, false), (4, false), (5, false), (6, false), (7, false), (8, true), (9, true), (10, false)] (by kernel_rfl) (by kernel_rfl) (ent_take 0 rfl (ent_nil _)) ?_
  refine dq rfl rfl rfl (mv (v := .pointer _) rfl) ?_
  first | refine dq rfl rfl rfl (nc rfl) ?_ | refine dq rfl rfl rfl (ncF rfl) ?_ | refine dq rfl rfl rfl (ncS rfl (by first | assumption | (simp [ints_length] <;> omega))) ?_
  first | refine dq rfl rfl rfl (fa 1 rfl rfl) ?_ | refine dq rfl rfl rfl (faS 1 rfl rfl (by first | assumption | (simp [ints_length] <;> omega))) ?_
  first | refine dq rfl rfl rfl (ld rfl rfl rfl) ?_ | refine dq rfl rfl rfl (ldS rfl rfl rfl) ?_
  refine dq rfl rfl rfl (mv (v := .pointer _) rfl) ?_
  first | refine dq rfl rfl rfl (nc rfl) ?_ | refine dq rfl rfl rfl (ncF rfl) ?_ | refine dq rfl rfl rfl (ncS rfl (by first | assumption | (simp [ints_length] <;> omega))) ?_
  first | refine dq rfl rfl rfl (fa 2 rfl rfl) ?_ | refine dq rfl rfl rfl (faS 2 rfl rfl (by first | assumption | (simp [ints_length] <;> omega))) ?_
  first | refine dq rfl rfl rfl (ld rfl rfl rfl) ?_ | refine dq rfl rfl rfl (ldS rfl rfl rfl) ?_
  refine de rfl rfl ?_
  refine bs (cs := [.int _ _, .int _ _]) rfl ?_
  intro b1
  refine ⟨(by repeat (first | exact ent_nil _ | refine ent_take 0 rfl ?_ | refine ent_take 1 rfl ?_ | refine ent_take 2 rfl ?_ | refine ent_take 3 rfl ?_ | refine ent_take 4 rfl ?_ | refine ent_take 5 rfl ?_ | refine ent_take 6 rfl ?_ | refine ent_take 7 rfl ?_ | refine ent_take 8 rfl ?_ | refine ent_take 9 rfl ?_ | refine ent_take 10 rfl ?_ | refine ent_take 11 rfl ?_ | refine ent_take 12 rfl ?_)), ?_⟩
  refine de rfl rfl ?_
  refine cl (qsum_ok (some ⟨b1, 0, none⟩) _ [c, g] (by simp; omega) (by simp)) rfl (picked_nil _) ⟨_, RdSI.rd (ad := some ⟨b1, 0, none⟩)⟩ ?_
  intro _ _
  change ent _ _ ∧ TD _ _ _ _ _ _ _ _ _ _ (sepL [_, _])
  refine ⟨(by repeat (first | exact ent_nil _ | refine ent_take 0 rfl ?_ | refine ent_take 1 rfl ?_ | refine ent_take 2 rfl ?_ | refine ent_take 3 rfl ?_ | refine ent_take 4 rfl ?_ | refine ent_take 5 rfl ?_ | refine ent_take 6 rfl ?_ | refine ent_take 7 rfl ?_ | refine ent_take 8 rfl ?_ | refine ent_take 9 rfl ?_ | refine ent_take 10 rfl ?_ | refine ent_take 11 rfl ?_ | refine ent_take 12 rfl ?_)), ?_⟩
  rw [show sumI [c, g] = c + g by simp [sumI]]
  refine dq rfl rfl rfl (asg (v := .int _ _) rfl) ?_
  refine TD.nil (nt ?_)
  refine TC.ret ?_
  exact Ret.i () [_] ⟨rfl, trivial⟩ rfl trivial (by repeat (first | exact ent_nil _ | refine ent_take 0 rfl ?_ | refine ent_take 1 rfl ?_ | refine ent_take 2 rfl ?_ | refine ent_take 3 rfl ?_ | refine ent_take 4 rfl ?_ | refine ent_take 5 rfl ?_ | refine ent_take 6 rfl ?_ | refine ent_take 7 rfl ?_ | refine ent_take 8 rfl ?_ | refine ent_take 9 rfl ?_ | refine ent_take 10 rfl ?_ | refine ent_take 11 rfl ?_ | refine ent_take 12 rfl ?_))

set_option maxRecDepth 4000 in
theorem qfits_ok (b : Nat) (l c g pr k : Int) (hc : 0 ≤ c ∧ c ≤ 1073741824) (hg : 0 ≤ g ∧ g ≤ 1073741824) (n : Int) (hl : 0 ≤ l ∧ l ≤ 1073741824) : FSpec Try.prog 28 [.pointer (some ⟨b, 0, none⟩), .int .i64 n] (fun F => Rd F b (.cells (List.toArray [.int .i64 l, .int .i64 c, .int .i64 g, .int .i64 pr, .int .i64 k]) 58 (0, 0))) [] (fun _ : Unit => .bool (decide (n ≤ l - (c + g)))) (fun _ => True) (fun _ => []) := by
  refine FSpec.intro (rs := [.tmp 4]) (by kernel_rfl) Try.func28 rfl Try.ntmps28 (by rfl) rfl ?_
  intro F hF
  change TC _ _ _ _ _ _ _ (sepL [_])
  haveI : RdI F b (.cells (List.toArray [.int .i64 l, .int .i64 c, .int .i64 g, .int .i64 pr, .int .i64 k]) 58 (0, 0)) := ⟨hF⟩
  refine TC.seq ?_
  refine TC.region ?_
  refine q rfl rfl (asg (v := .bool _) rfl) ?_
  refine TL.nil (nt ?_)
  refine TC.seq ?_
  refine TC.draw _ [] [(0, false), (1, false), (2, false), (3, false), (4, false), (5, false), (6, true), (7, false), (8, false), (9, false)] (by kernel_rfl) (by kernel_rfl) (ent_take 0 rfl (ent_nil _)) ?_
  refine dq rfl rfl rfl (mv (v := .int _ _) rfl) ?_
  refine dq rfl rfl rfl (mv (v := .pointer _) rfl) ?_
  first | refine dq rfl rfl rfl (nc rfl) ?_ | refine dq rfl rfl rfl (ncF rfl) ?_ | refine dq rfl rfl rfl (ncS rfl (by first | assumption | (simp [ints_length] <;> omega))) ?_
  first | refine dq rfl rfl rfl (fa 0 rfl rfl) ?_ | refine dq rfl rfl rfl (faS 0 rfl rfl (by first | assumption | (simp [ints_length] <;> omega))) ?_
  first | refine dq rfl rfl rfl (ld rfl rfl rfl) ?_ | refine dq rfl rfl rfl (ldS rfl rfl rfl) ?_
  refine dq rfl rfl rfl (mv (v := .pointer _) rfl) ?_
  refine de rfl rfl ?_
  refine cl (quse_ok b l c g pr k hc hg) rfl (picked_nil _) RdI.rd ?_
  intro _ _
  change ent _ _ ∧ TD _ _ _ _ _ _ _ _ _ _ (sepL [_])
  refine ⟨(by repeat (first | exact ent_nil _ | refine ent_take 0 rfl ?_ | refine ent_take 1 rfl ?_ | refine ent_take 2 rfl ?_ | refine ent_take 3 rfl ?_ | refine ent_take 4 rfl ?_ | refine ent_take 5 rfl ?_ | refine ent_take 6 rfl ?_ | refine ent_take 7 rfl ?_ | refine ent_take 8 rfl ?_ | refine ent_take 9 rfl ?_ | refine ent_take 10 rfl ?_ | refine ent_take 11 rfl ?_ | refine ent_take 12 rfl ?_)), ?_⟩
  first | refine dq rfl rfl rfl (subI rfl rfl (by omega) (by omega)) ?_ | refine dq rfl rfl rfl (sub rfl rfl rfl) ?_
  refine dq rfl rfl rfl (leq rfl rfl) ?_
  refine dq rfl rfl rfl (asg (v := .bool _) rfl) ?_
  refine TD.nil (nt ?_)
  refine TC.ret ?_
  exact Ret.i () [_] ⟨rfl, trivial⟩ rfl trivial (by repeat (first | exact ent_nil _ | refine ent_take 0 rfl ?_ | refine ent_take 1 rfl ?_ | refine ent_take 2 rfl ?_ | refine ent_take 3 rfl ?_ | refine ent_take 4 rfl ?_ | refine ent_take 5 rfl ?_ | refine ent_take 6 rfl ?_ | refine ent_take 7 rfl ?_ | refine ent_take 8 rfl ?_ | refine ent_take 9 rfl ?_ | refine ent_take 10 rfl ?_ | refine ent_take 11 rfl ?_ | refine ent_take 12 rfl ?_))

set_option maxRecDepth 4000 in
theorem qat_yes (b mb n : Nat) (nxt : Int) (A : Int → Nat) (L : List Qn) (id : Int) (h : hasQ L id) : FSpec Try.prog 27 [.pointer (some ⟨b, 0, none⟩), .int .i64 id] noRd [pts b 61 [.map (some mb), .int .i64 nxt], mapF QM.encI mb (fQ A L) n] (fun _ : Unit => .tuple #[.pointer (some ⟨(A id), 0, none⟩), .int .i64 0]) (fun _ => True) (fun _ => [pts b 61 [.map (some mb), .int .i64 nxt], mapF QM.encI mb (fQ A L) n]) := by
  refine FSpec.intro (rs := [.tmp 4, .tmp 5]) (by kernel_rfl) Try.func27 rfl Try.ntmps27 (by rfl) rfl ?_
  intro F _
  change TC _ _ _ _ _ _ _ (sepL [_, _, _])
  refine TC.seq ?_
  refine TC.region ?_
  refine q rfl rfl (asg rfl) ?_
  refine q rfl rfl (asg rfl) ?_
  refine TL.nil (nt ?_)
  refine TC.seq ?_
  refine TC.seq ?_
  refine TC.region ?_
  refine q rfl rfl (mv rfl) ?_
  refine q rfl rfl (eqNil rfl rfl rfl) ?_
  refine TL.nil (nt ?_)
  refine TC.condF rfl ?_
  refine TC.skip (nt ?_)
  refine TC.seq ?_
  refine TC.region ?_
  refine q rfl rfl (mv rfl) ?_
  first | refine q rfl rfl (nc rfl) ?_ | refine q rfl rfl (ncF rfl) ?_ | refine q rfl rfl (ncS rfl (by first | assumption | (simp [ints_length] <;> omega))) ?_
  first | refine q rfl rfl (fa 0 rfl rfl) ?_ | refine q rfl rfl (faS 0 rfl rfl (by first | assumption | (simp [ints_length] <;> omega))) ?_
  first | refine q rfl rfl (ld rfl rfl rfl) ?_ | refine q rfl rfl (ldS rfl rfl rfl) ?_
  refine q rfl rfl (mv rfl) ?_
  refine q rfl rfl (luF 3 54 rfl rfl (KL.int rfl) rfl rfl) ?_
  rw [fQ_yes h]
  refine q rfl rfl (asg (v := .pointer _) rfl) ?_
  refine TL.nil (nt ?_)
  refine TC.seq ?_
  refine TC.seq ?_
  refine TC.region ?_
  refine q rfl rfl (mv (v := .pointer _) rfl) ?_
  refine q rfl rfl (eqNil rfl rfl rfl) ?_
  refine TL.nil (nt ?_)
  refine TC.condF rfl ?_
  refine TC.skip (nt ?_)
  refine TC.seq ?_
  refine TC.region ?_
  refine q rfl rfl (mv (v := .pointer _) rfl) ?_
  refine q rfl rfl (asg (v := .pointer _) rfl) ?_
  refine q rfl rfl (asg (v := .int _ _) rfl) ?_
  refine TL.nil (nt ?_)
  refine TC.ret ?_
  exact Ret.i () [_, _] ⟨rfl, rfl, trivial⟩ rfl trivial (ent_take 0 rfl (ent_take 0 rfl (ent_take 0 rfl (ent_nil _))))

set_option maxRecDepth 4000 in
theorem qat_no (b mb n : Nat) (nxt : Int) (A : Int → Nat) (L : List Qn) (id : Int) (h : ¬ hasQ L id) : FSpec Try.prog 27 [.pointer (some ⟨b, 0, none⟩), .int .i64 id] noRd [pts b 61 [.map (some mb), .int .i64 nxt], mapF QM.encI mb (fQ A L) n] (fun _ : Unit => .tuple #[.pointer none, .int .i64 6]) (fun _ => True) (fun _ => [pts b 61 [.map (some mb), .int .i64 nxt], mapF QM.encI mb (fQ A L) n]) := by
  refine FSpec.intro (rs := [.tmp 4, .tmp 5]) (by kernel_rfl) Try.func27 rfl Try.ntmps27 (by rfl) rfl ?_
  intro F _
  change TC _ _ _ _ _ _ _ (sepL [_, _, _])
  refine TC.seq ?_
  refine TC.region ?_
  refine q rfl rfl (asg rfl) ?_
  refine q rfl rfl (asg rfl) ?_
  refine TL.nil (nt ?_)
  refine TC.seq ?_
  refine TC.seq ?_
  refine TC.region ?_
  refine q rfl rfl (mv rfl) ?_
  refine q rfl rfl (eqNil rfl rfl rfl) ?_
  refine TL.nil (nt ?_)
  refine TC.condF rfl ?_
  refine TC.skip (nt ?_)
  refine TC.seq ?_
  refine TC.region ?_
  refine q rfl rfl (mv rfl) ?_
  first | refine q rfl rfl (nc rfl) ?_ | refine q rfl rfl (ncF rfl) ?_ | refine q rfl rfl (ncS rfl (by first | assumption | (simp [ints_length] <;> omega))) ?_
  first | refine q rfl rfl (fa 0 rfl rfl) ?_ | refine q rfl rfl (faS 0 rfl rfl (by first | assumption | (simp [ints_length] <;> omega))) ?_
  first | refine q rfl rfl (ld rfl rfl rfl) ?_ | refine q rfl rfl (ldS rfl rfl rfl) ?_
  refine q rfl rfl (mv rfl) ?_
  refine q rfl rfl (luF 3 54 rfl rfl (KL.int rfl) rfl rfl) ?_
  rw [fQ_no h]
  refine q rfl rfl (asg (v := .pointer _) rfl) ?_
  refine TL.nil (nt ?_)
  refine TC.seq ?_
  refine TC.seq ?_
  refine TC.region ?_
  refine q rfl rfl (mv (v := .pointer _) rfl) ?_
  refine q rfl rfl (eqNil rfl rfl rfl) ?_
  refine TL.nil (nt ?_)
  refine TC.condT rfl ?_
  refine TC.seq ?_
  refine TC.region ?_
  refine q rfl rfl (asg (v := .pointer _) rfl) ?_
  refine q rfl rfl (asg (v := .int _ _) rfl) ?_
  refine TL.nil (nt ?_)
  refine TC.ret (rt ?_)
  exact Ret.i () [_, _] ⟨rfl, rfl, trivial⟩ rfl trivial (ent_take 0 rfl (ent_take 0 rfl (ent_take 0 rfl (ent_nil _))))

set_option maxRecDepth 4000 in
theorem qat_nil (id : Int) : FSpec Try.prog 27 [.pointer none, .int .i64 id] noRd [] (fun _ : Unit => .tuple #[.pointer none, .int .i64 1]) (fun _ => True) (fun _ => []) := by
  refine FSpec.intro (rs := [.tmp 4, .tmp 5]) (by kernel_rfl) Try.func27 rfl Try.ntmps27 (by rfl) rfl ?_
  intro F _
  change TC _ _ _ _ _ _ _ (sepL [_])
  refine TC.seq ?_
  refine TC.region ?_
  refine q rfl rfl (asg (v := .pointer _) rfl) ?_
  refine q rfl rfl (asg (v := .int _ _) rfl) ?_
  refine TL.nil (nt ?_)
  refine TC.seq ?_
  refine TC.seq ?_
  refine TC.region ?_
  refine q rfl rfl (mv (v := .pointer _) rfl) ?_
  refine q rfl rfl (eqNil rfl rfl rfl) ?_
  refine TL.nil (nt ?_)
  refine TC.condT rfl ?_
  refine TC.seq ?_
  refine TC.region ?_
  refine q rfl rfl (asg (v := .pointer _) rfl) ?_
  refine q rfl rfl (asg (v := .int _ _) rfl) ?_
  refine TL.nil (nt ?_)
  refine TC.ret (rt ?_)
  exact Ret.i () [_, _] ⟨rfl, rfl, trivial⟩ rfl trivial (ent_take 0 rfl (ent_nil _))

set_option maxRecDepth 4000 in
theorem qlim_ok (b : Nat) (L : List Qn) (nxt : Int) (id : Int) : FSpec Try.prog 13 [.pointer (some ⟨b, 0, none⟩), .int .i64 id] noRd [isQ b L nxt] (fun _ : Unit => .int .i64 (limQ L id)) (fun _ => True) (fun _ => [isQ b L nxt]) := by
  refine FSpec.intro (rs := [.tmp 4]) (by kernel_rfl) Try.func13 rfl Try.ntmps13 (by rfl) rfl ?_
  intro F _
  change TC _ _ _ _ _ _ _ (sepL [_, _])
  refine TC.open 0 rfl (fun x0 hx0 => ?_)
  obtain ⟨A, mb⟩ := x0
  have hW := hx0
  change TC _ _ _ _ _ _ _ (sepL [_, _, _, _])
  dsimp only at hW ⊢
  by_cases h : hasQ L id
  · obtain ⟨t, ht, rfl⟩ := h
    have h : hasQ L t.id := ⟨t, ht, rfl⟩
    obtain ⟨e1, e2, e3, e4⟩ := use_yes hW.nd ht
    have hb := hW.big ht
    rw [e2]
    haveI := tQ_rd (A := A) ht
    refine TC.seq ?_
    refine TC.region ?_
    refine q rfl rfl (asg (v := .int _ _) rfl) ?_
    refine TL.nil (nt ?_)
    refine TC.seq ?_
    refine TC.region ?_
    refine q rfl rfl (mv (v := .pointer _) rfl) ?_
    refine q rfl rfl (mv (v := .int _ _) rfl) ?_
    refine e rfl ?_
    refine cl (qat_yes b mb L.length nxt A L t.id h) rfl PkL.p trivial ?_
    intro _ _
    change TL _ _ _ _ _ _ _ _ (sepL [_, _, _, _])
    refine q rfl rfl (mv (v := .tuple _) rfl) ?_
    refine q rfl rfl (pu (v := .pointer _) (fun _ => rfl)) ?_
    refine q rfl rfl (pu (v := .int _ _) (fun _ => rfl)) ?_
    refine q rfl rfl (asg (v := .pointer _) rfl) ?_
    refine q rfl rfl (asg (v := .int _ _) rfl) ?_
    refine TL.nil (nt ?_)
    refine TC.seq ?_
    refine TC.seq ?_
    refine TC.region ?_
    refine q rfl rfl (mv (v := .int _ _) rfl) ?_
    refine q rfl rfl (neI rfl rfl) ?_
    refine TL.nil (nt ?_)
    refine TC.condF rfl ?_
    refine TC.skip (nt ?_)
    refine TC.seq ?_
    refine TC.region ?_
    refine q rfl rfl (mv (v := .pointer _) rfl) ?_
    first | refine q rfl rfl (nc rfl) ?_ | refine q rfl rfl (ncF rfl) ?_ | refine q rfl rfl (ncS rfl (by first | assumption | (simp [ints_length] <;> omega))) ?_
    first | refine q rfl rfl (fa 0 rfl rfl) ?_ | refine q rfl rfl (faS 0 rfl rfl (by first | assumption | (simp [ints_length] <;> omega))) ?_
    first | refine q rfl rfl (fa 0 rfl rfl) ?_ | refine q rfl rfl (faS 0 rfl rfl (by first | assumption | (simp [ints_length] <;> omega))) ?_
    first | refine q rfl rfl (ld rfl rfl rfl) ?_ | refine q rfl rfl (ldS rfl rfl rfl) ?_
    refine q rfl rfl (asg (v := .int _ _) rfl) ?_
    refine TL.nil (nt ?_)
    refine TC.ret ?_
    exact Ret.i () [_] ⟨rfl, trivial⟩ rfl trivial (ent_close ⟨A, mb⟩ hW (ent_take 0 rfl (ent_take 0 rfl (ent_take 0 rfl (ent_take 0 rfl (ent_nil _))))))
  · obtain ⟨e1, e2, e3, e4⟩ := use_no h
    rw [e2]
    refine TC.seq ?_
    refine TC.region ?_
    refine q rfl rfl (asg (v := .int _ _) rfl) ?_
    refine TL.nil (nt ?_)
    refine TC.seq ?_
    refine TC.region ?_
    refine q rfl rfl (mv (v := .pointer _) rfl) ?_
    refine q rfl rfl (mv (v := .int _ _) rfl) ?_
    refine e rfl ?_
    refine cl (qat_no b mb L.length nxt A L id h) rfl PkL.p trivial ?_
    intro _ _
    change TL _ _ _ _ _ _ _ _ (sepL [_, _, _, _])
    refine q rfl rfl (mv (v := .tuple _) rfl) ?_
    refine q rfl rfl (pu (v := .pointer _) (fun _ => rfl)) ?_
    refine q rfl rfl (pu (v := .int _ _) (fun _ => rfl)) ?_
    refine q rfl rfl (asg (v := .pointer _) rfl) ?_
    refine q rfl rfl (asg (v := .int _ _) rfl) ?_
    refine TL.nil (nt ?_)
    refine TC.seq ?_
    refine TC.seq ?_
    refine TC.region ?_
    refine q rfl rfl (mv (v := .int _ _) rfl) ?_
    refine q rfl rfl (neI rfl rfl) ?_
    refine TL.nil (nt ?_)
    refine TC.condT rfl ?_
    refine TC.seq ?_
    refine TC.region ?_
    refine q rfl rfl (asg (v := .int _ _) rfl) ?_
    refine TL.nil (nt ?_)
    refine TC.ret (rt ?_)
    exact Ret.i () [_] ⟨rfl, trivial⟩ rfl trivial (ent_close ⟨A, mb⟩ hW (ent_take 0 rfl (ent_take 0 rfl (ent_take 0 rfl (ent_take 0 rfl (ent_nil _))))))

set_option maxRecDepth 4000 in
theorem qlim_nil (id : Int) : FSpec Try.prog 13 [.pointer none, .int .i64 id] noRd [] (fun _ : Unit => .int .i64 (0)) (fun _ => True) (fun _ => []) := by
  refine FSpec.intro (rs := [.tmp 4]) (by kernel_rfl) Try.func13 rfl Try.ntmps13 (by rfl) rfl ?_
  intro F _
  change TC _ _ _ _ _ _ _ (sepL [_])
  refine TC.seq ?_
  refine TC.region ?_
  refine q rfl rfl (asg (v := .int _ _) rfl) ?_
  refine TL.nil (nt ?_)
  refine TC.seq ?_
  refine TC.region ?_
  refine q rfl rfl (mv (v := .pointer _) rfl) ?_
  refine q rfl rfl (mv (v := .int _ _) rfl) ?_
  refine e rfl ?_
  refine cl (qat_nil id) rfl (picked_nil _) trivial ?_
  intro _ _
  change TL _ _ _ _ _ _ _ _ (sepL [_])
  refine q rfl rfl (mv (v := .tuple _) rfl) ?_
  refine q rfl rfl (pu (v := .pointer _) (fun _ => rfl)) ?_
  refine q rfl rfl (pu (v := .int _ _) (fun _ => rfl)) ?_
  refine q rfl rfl (asg (v := .pointer _) rfl) ?_
  refine q rfl rfl (asg (v := .int _ _) rfl) ?_
  refine TL.nil (nt ?_)
  refine TC.seq ?_
  refine TC.seq ?_
  refine TC.region ?_
  refine q rfl rfl (mv (v := .int _ _) rfl) ?_
  refine q rfl rfl (neI rfl rfl) ?_
  refine TL.nil (nt ?_)
  refine TC.condT rfl ?_
  refine TC.seq ?_
  refine TC.region ?_
  refine q rfl rfl (asg (v := .int _ _) rfl) ?_
  refine TL.nil (nt ?_)
  refine TC.ret (rt ?_)
  exact Ret.i () [_] ⟨rfl, trivial⟩ rfl trivial (ent_take 0 rfl (ent_nil _))

set_option maxRecDepth 4000 in
theorem quses_ok (b : Nat) (L : List Qn) (nxt : Int) (id : Int) : FSpec Try.prog 12 [.pointer (some ⟨b, 0, none⟩), .int .i64 id] noRd [isQ b L nxt] (fun _ : Unit => .int .i64 (useQ L id)) (fun _ => True) (fun _ => [isQ b L nxt]) := by
  refine FSpec.intro (rs := [.tmp 4]) (by kernel_rfl) Try.func12 rfl Try.ntmps12 (by rfl) rfl ?_
  intro F _
  change TC _ _ _ _ _ _ _ (sepL [_, _])
  refine TC.open 0 rfl (fun x0 hx0 => ?_)
  obtain ⟨A, mb⟩ := x0
  have hW := hx0
  change TC _ _ _ _ _ _ _ (sepL [_, _, _, _])
  dsimp only at hW ⊢
  by_cases h : hasQ L id
  · obtain ⟨t, ht, rfl⟩ := h
    have h : hasQ L t.id := ⟨t, ht, rfl⟩
    obtain ⟨e1, e2, e3, e4⟩ := use_yes hW.nd ht
    have hb := hW.big ht
    rw [e1]
    haveI := tQ_rd (A := A) ht
    refine TC.seq ?_
    refine TC.region ?_
    refine q rfl rfl (asg (v := .int _ _) rfl) ?_
    refine TL.nil (nt ?_)
    refine TC.seq ?_
    refine TC.region ?_
    refine q rfl rfl (mv (v := .pointer _) rfl) ?_
    refine q rfl rfl (mv (v := .int _ _) rfl) ?_
    refine e rfl ?_
    refine cl (qat_yes b mb L.length nxt A L t.id h) rfl PkL.p trivial ?_
    intro _ _
    change TL _ _ _ _ _ _ _ _ (sepL [_, _, _, _])
    refine q rfl rfl (mv (v := .tuple _) rfl) ?_
    refine q rfl rfl (pu (v := .pointer _) (fun _ => rfl)) ?_
    refine q rfl rfl (pu (v := .int _ _) (fun _ => rfl)) ?_
    refine q rfl rfl (asg (v := .pointer _) rfl) ?_
    refine q rfl rfl (asg (v := .int _ _) rfl) ?_
    refine TL.nil (nt ?_)
    refine TC.seq ?_
    refine TC.seq ?_
    refine TC.region ?_
    refine q rfl rfl (mv (v := .int _ _) rfl) ?_
    refine q rfl rfl (neI rfl rfl) ?_
    refine TL.nil (nt ?_)
    refine TC.condF rfl ?_
    refine TC.skip (nt ?_)
    refine TC.seq ?_
    refine TC.region ?_
    refine q rfl rfl (mv (v := .pointer _) rfl) ?_
    first | refine q rfl rfl (nc rfl) ?_ | refine q rfl rfl (ncF rfl) ?_ | refine q rfl rfl (ncS rfl (by first | assumption | (simp [ints_length] <;> omega))) ?_
    first | refine q rfl rfl (fa 0 rfl rfl) ?_ | refine q rfl rfl (faS 0 rfl rfl (by first | assumption | (simp [ints_length] <;> omega))) ?_
    refine e rfl ?_
    refine cl (quse_ok (A t.id) t.lim t.chg (givQ L t.id) t.par (kidQ L t.id) (by omega) (by omega)) rfl (picked_nil _) RdI.rd ?_
    intro _ _
    change TL _ _ _ _ _ _ _ _ (sepL [_, _, _, _])
    refine q rfl rfl (asg (v := .int _ _) rfl) ?_
    refine TL.nil (nt ?_)
    refine TC.ret ?_
    exact Ret.i () [_] ⟨rfl, trivial⟩ rfl trivial (ent_close ⟨A, mb⟩ hW (ent_take 0 rfl (ent_take 0 rfl (ent_take 0 rfl (ent_take 0 rfl (ent_nil _))))))
  · obtain ⟨e1, e2, e3, e4⟩ := use_no h
    rw [e1]
    refine TC.seq ?_
    refine TC.region ?_
    refine q rfl rfl (asg (v := .int _ _) rfl) ?_
    refine TL.nil (nt ?_)
    refine TC.seq ?_
    refine TC.region ?_
    refine q rfl rfl (mv (v := .pointer _) rfl) ?_
    refine q rfl rfl (mv (v := .int _ _) rfl) ?_
    refine e rfl ?_
    refine cl (qat_no b mb L.length nxt A L id h) rfl PkL.p trivial ?_
    intro _ _
    change TL _ _ _ _ _ _ _ _ (sepL [_, _, _, _])
    refine q rfl rfl (mv (v := .tuple _) rfl) ?_
    refine q rfl rfl (pu (v := .pointer _) (fun _ => rfl)) ?_
    refine q rfl rfl (pu (v := .int _ _) (fun _ => rfl)) ?_
    refine q rfl rfl (asg (v := .pointer _) rfl) ?_
    refine q rfl rfl (asg (v := .int _ _) rfl) ?_
    refine TL.nil (nt ?_)
    refine TC.seq ?_
    refine TC.seq ?_
    refine TC.region ?_
    refine q rfl rfl (mv (v := .int _ _) rfl) ?_
    refine q rfl rfl (neI rfl rfl) ?_
    refine TL.nil (nt ?_)
    refine TC.condT rfl ?_
    refine TC.seq ?_
    refine TC.region ?_
    refine q rfl rfl (asg (v := .int _ _) rfl) ?_
    refine TL.nil (nt ?_)
    refine TC.ret (rt ?_)
    exact Ret.i () [_] ⟨rfl, trivial⟩ rfl trivial (ent_close ⟨A, mb⟩ hW (ent_take 0 rfl (ent_take 0 rfl (ent_take 0 rfl (ent_take 0 rfl (ent_nil _))))))

set_option maxRecDepth 4000 in
theorem quses_nil (id : Int) : FSpec Try.prog 12 [.pointer none, .int .i64 id] noRd [] (fun _ : Unit => .int .i64 (0)) (fun _ => True) (fun _ => []) := by
  refine FSpec.intro (rs := [.tmp 4]) (by kernel_rfl) Try.func12 rfl Try.ntmps12 (by rfl) rfl ?_
  intro F _
  change TC _ _ _ _ _ _ _ (sepL [_])
  refine TC.seq ?_
  refine TC.region ?_
  refine q rfl rfl (asg (v := .int _ _) rfl) ?_
  refine TL.nil (nt ?_)
  refine TC.seq ?_
  refine TC.region ?_
  refine q rfl rfl (mv (v := .pointer _) rfl) ?_
  refine q rfl rfl (mv (v := .int _ _) rfl) ?_
  refine e rfl ?_
  refine cl (qat_nil id) rfl (picked_nil _) trivial ?_
  intro _ _
  change TL _ _ _ _ _ _ _ _ (sepL [_])
  refine q rfl rfl (mv (v := .tuple _) rfl) ?_
  refine q rfl rfl (pu (v := .pointer _) (fun _ => rfl)) ?_
  refine q rfl rfl (pu (v := .int _ _) (fun _ => rfl)) ?_
  refine q rfl rfl (asg (v := .pointer _) rfl) ?_
  refine q rfl rfl (asg (v := .int _ _) rfl) ?_
  refine TL.nil (nt ?_)
  refine TC.seq ?_
  refine TC.seq ?_
  refine TC.region ?_
  refine q rfl rfl (mv (v := .int _ _) rfl) ?_
  refine q rfl rfl (neI rfl rfl) ?_
  refine TL.nil (nt ?_)
  refine TC.condT rfl ?_
  refine TC.seq ?_
  refine TC.region ?_
  refine q rfl rfl (asg (v := .int _ _) rfl) ?_
  refine TL.nil (nt ?_)
  refine TC.ret (rt ?_)
  exact Ret.i () [_] ⟨rfl, trivial⟩ rfl trivial (ent_take 0 rfl (ent_nil _))

set_option maxRecDepth 4000 in
theorem qchg_ok (b : Nat) (L : List Qn) (nxt : Int) (id : Int) : FSpec Try.prog 19 [.pointer (some ⟨b, 0, none⟩), .int .i64 id] noRd [isQ b L nxt] (fun _ : Unit => .int .i64 (chgQ L id)) (fun _ => True) (fun _ => [isQ b L nxt]) := by
  refine FSpec.intro (rs := [.tmp 4]) (by kernel_rfl) Try.func19 rfl Try.ntmps19 (by rfl) rfl ?_
  intro F _
  change TC _ _ _ _ _ _ _ (sepL [_, _])
  refine TC.open 0 rfl (fun x0 hx0 => ?_)
  obtain ⟨A, mb⟩ := x0
  have hW := hx0
  change TC _ _ _ _ _ _ _ (sepL [_, _, _, _])
  dsimp only at hW ⊢
  by_cases h : hasQ L id
  · obtain ⟨t, ht, rfl⟩ := h
    have h : hasQ L t.id := ⟨t, ht, rfl⟩
    obtain ⟨e1, e2, e3, e4⟩ := use_yes hW.nd ht
    have hb := hW.big ht
    rw [e3]
    haveI := tQ_rd (A := A) ht
    refine TC.seq ?_
    refine TC.region ?_
    refine q rfl rfl (asg (v := .int _ _) rfl) ?_
    refine TL.nil (nt ?_)
    refine TC.seq ?_
    refine TC.region ?_
    refine q rfl rfl (mv (v := .pointer _) rfl) ?_
    refine q rfl rfl (mv (v := .int _ _) rfl) ?_
    refine e rfl ?_
    refine cl (qat_yes b mb L.length nxt A L t.id h) rfl PkL.p trivial ?_
    intro _ _
    change TL _ _ _ _ _ _ _ _ (sepL [_, _, _, _])
    refine q rfl rfl (mv (v := .tuple _) rfl) ?_
    refine q rfl rfl (pu (v := .pointer _) (fun _ => rfl)) ?_
    refine q rfl rfl (pu (v := .int _ _) (fun _ => rfl)) ?_
    refine q rfl rfl (asg (v := .pointer _) rfl) ?_
    refine q rfl rfl (asg (v := .int _ _) rfl) ?_
    refine TL.nil (nt ?_)
    refine TC.seq ?_
    refine TC.seq ?_
    refine TC.region ?_
    refine q rfl rfl (mv (v := .int _ _) rfl) ?_
    refine q rfl rfl (neI rfl rfl) ?_
    refine TL.nil (nt ?_)
    refine TC.condF rfl ?_
    refine TC.skip (nt ?_)
    refine TC.seq ?_
    refine TC.region ?_
    refine q rfl rfl (mv (v := .pointer _) rfl) ?_
    first | refine q rfl rfl (nc rfl) ?_ | refine q rfl rfl (ncF rfl) ?_ | refine q rfl rfl (ncS rfl (by first | assumption | (simp [ints_length] <;> omega))) ?_
    first | refine q rfl rfl (fa 0 rfl rfl) ?_ | refine q rfl rfl (faS 0 rfl rfl (by first | assumption | (simp [ints_length] <;> omega))) ?_
    first | refine q rfl rfl (fa 1 rfl rfl) ?_ | refine q rfl rfl (faS 1 rfl rfl (by first | assumption | (simp [ints_length] <;> omega))) ?_
    first | refine q rfl rfl (ld rfl rfl rfl) ?_ | refine q rfl rfl (ldS rfl rfl rfl) ?_
    refine q rfl rfl (asg (v := .int _ _) rfl) ?_
    refine TL.nil (nt ?_)
    refine TC.ret ?_
    exact Ret.i () [_] ⟨rfl, trivial⟩ rfl trivial (ent_close ⟨A, mb⟩ hW (ent_take 0 rfl (ent_take 0 rfl (ent_take 0 rfl (ent_take 0 rfl (ent_nil _))))))
  · obtain ⟨e1, e2, e3, e4⟩ := use_no h
    rw [e3]
    refine TC.seq ?_
    refine TC.region ?_
    refine q rfl rfl (asg (v := .int _ _) rfl) ?_
    refine TL.nil (nt ?_)
    refine TC.seq ?_
    refine TC.region ?_
    refine q rfl rfl (mv (v := .pointer _) rfl) ?_
    refine q rfl rfl (mv (v := .int _ _) rfl) ?_
    refine e rfl ?_
    refine cl (qat_no b mb L.length nxt A L id h) rfl PkL.p trivial ?_
    intro _ _
    change TL _ _ _ _ _ _ _ _ (sepL [_, _, _, _])
    refine q rfl rfl (mv (v := .tuple _) rfl) ?_
    refine q rfl rfl (pu (v := .pointer _) (fun _ => rfl)) ?_
    refine q rfl rfl (pu (v := .int _ _) (fun _ => rfl)) ?_
    refine q rfl rfl (asg (v := .pointer _) rfl) ?_
    refine q rfl rfl (asg (v := .int _ _) rfl) ?_
    refine TL.nil (nt ?_)
    refine TC.seq ?_
    refine TC.seq ?_
    refine TC.region ?_
    refine q rfl rfl (mv (v := .int _ _) rfl) ?_
    refine q rfl rfl (neI rfl rfl) ?_
    refine TL.nil (nt ?_)
    refine TC.condT rfl ?_
    refine TC.seq ?_
    refine TC.region ?_
    refine q rfl rfl (asg (v := .int _ _) rfl) ?_
    refine TL.nil (nt ?_)
    refine TC.ret (rt ?_)
    exact Ret.i () [_] ⟨rfl, trivial⟩ rfl trivial (ent_close ⟨A, mb⟩ hW (ent_take 0 rfl (ent_take 0 rfl (ent_take 0 rfl (ent_take 0 rfl (ent_nil _))))))

set_option maxRecDepth 4000 in
theorem qchg_nil (id : Int) : FSpec Try.prog 19 [.pointer none, .int .i64 id] noRd [] (fun _ : Unit => .int .i64 (0)) (fun _ => True) (fun _ => []) := by
  refine FSpec.intro (rs := [.tmp 4]) (by kernel_rfl) Try.func19 rfl Try.ntmps19 (by rfl) rfl ?_
  intro F _
  change TC _ _ _ _ _ _ _ (sepL [_])
  refine TC.seq ?_
  refine TC.region ?_
  refine q rfl rfl (asg (v := .int _ _) rfl) ?_
  refine TL.nil (nt ?_)
  refine TC.seq ?_
  refine TC.region ?_
  refine q rfl rfl (mv (v := .pointer _) rfl) ?_
  refine q rfl rfl (mv (v := .int _ _) rfl) ?_
  refine e rfl ?_
  refine cl (qat_nil id) rfl (picked_nil _) trivial ?_
  intro _ _
  change TL _ _ _ _ _ _ _ _ (sepL [_])
  refine q rfl rfl (mv (v := .tuple _) rfl) ?_
  refine q rfl rfl (pu (v := .pointer _) (fun _ => rfl)) ?_
  refine q rfl rfl (pu (v := .int _ _) (fun _ => rfl)) ?_
  refine q rfl rfl (asg (v := .pointer _) rfl) ?_
  refine q rfl rfl (asg (v := .int _ _) rfl) ?_
  refine TL.nil (nt ?_)
  refine TC.seq ?_
  refine TC.seq ?_
  refine TC.region ?_
  refine q rfl rfl (mv (v := .int _ _) rfl) ?_
  refine q rfl rfl (neI rfl rfl) ?_
  refine TL.nil (nt ?_)
  refine TC.condT rfl ?_
  refine TC.seq ?_
  refine TC.region ?_
  refine q rfl rfl (asg (v := .int _ _) rfl) ?_
  refine TL.nil (nt ?_)
  refine TC.ret (rt ?_)
  exact Ret.i () [_] ⟨rfl, trivial⟩ rfl trivial (ent_take 0 rfl (ent_nil _))

set_option maxRecDepth 4000 in
theorem qpar_ok (b : Nat) (L : List Qn) (nxt : Int) (id : Int) : FSpec Try.prog 11 [.pointer (some ⟨b, 0, none⟩), .int .i64 id] noRd [isQ b L nxt] (fun _ : Unit => .int .i64 (parQ L id)) (fun _ => True) (fun _ => [isQ b L nxt]) := by
  refine FSpec.intro (rs := [.tmp 4]) (by kernel_rfl) Try.func11 rfl Try.ntmps11 (by rfl) rfl ?_
  intro F _
  change TC _ _ _ _ _ _ _ (sepL [_, _])
  refine TC.open 0 rfl (fun x0 hx0 => ?_)
  obtain ⟨A, mb⟩ := x0
  have hW := hx0
  change TC _ _ _ _ _ _ _ (sepL [_, _, _, _])
  dsimp only at hW ⊢
  by_cases h : hasQ L id
  · obtain ⟨t, ht, rfl⟩ := h
    have h : hasQ L t.id := ⟨t, ht, rfl⟩
    obtain ⟨e1, e2, e3, e4⟩ := use_yes hW.nd ht
    have hb := hW.big ht
    rw [e4]
    haveI := tQ_rd (A := A) ht
    refine TC.seq ?_
    refine TC.region ?_
    refine q rfl rfl (asg (v := .int _ _) rfl) ?_
    refine TL.nil (nt ?_)
    refine TC.seq ?_
    refine TC.region ?_
    refine q rfl rfl (mv (v := .pointer _) rfl) ?_
    refine q rfl rfl (mv (v := .int _ _) rfl) ?_
    refine e rfl ?_
    refine cl (qat_yes b mb L.length nxt A L t.id h) rfl PkL.p trivial ?_
    intro _ _
    change TL _ _ _ _ _ _ _ _ (sepL [_, _, _, _])
    refine q rfl rfl (mv (v := .tuple _) rfl) ?_
    refine q rfl rfl (pu (v := .pointer _) (fun _ => rfl)) ?_
    refine q rfl rfl (pu (v := .int _ _) (fun _ => rfl)) ?_
    refine q rfl rfl (asg (v := .pointer _) rfl) ?_
    refine q rfl rfl (asg (v := .int _ _) rfl) ?_
    refine TL.nil (nt ?_)
    refine TC.seq ?_
    refine TC.seq ?_
    refine TC.region ?_
    refine q rfl rfl (mv (v := .int _ _) rfl) ?_
    refine q rfl rfl (neI rfl rfl) ?_
    refine TL.nil (nt ?_)
    refine TC.condF rfl ?_
    refine TC.skip (nt ?_)
    refine TC.seq ?_
    refine TC.region ?_
    refine q rfl rfl (mv (v := .pointer _) rfl) ?_
    first | refine q rfl rfl (nc rfl) ?_ | refine q rfl rfl (ncF rfl) ?_ | refine q rfl rfl (ncS rfl (by first | assumption | (simp [ints_length] <;> omega))) ?_
    first | refine q rfl rfl (fa 3 rfl rfl) ?_ | refine q rfl rfl (faS 3 rfl rfl (by first | assumption | (simp [ints_length] <;> omega))) ?_
    first | refine q rfl rfl (ld rfl rfl rfl) ?_ | refine q rfl rfl (ldS rfl rfl rfl) ?_
    refine q rfl rfl (asg (v := .int _ _) rfl) ?_
    refine TL.nil (nt ?_)
    refine TC.ret ?_
    exact Ret.i () [_] ⟨rfl, trivial⟩ rfl trivial (ent_close ⟨A, mb⟩ hW (ent_take 0 rfl (ent_take 0 rfl (ent_take 0 rfl (ent_take 0 rfl (ent_nil _))))))
  · obtain ⟨e1, e2, e3, e4⟩ := use_no h
    rw [e4]
    refine TC.seq ?_
    refine TC.region ?_
    refine q rfl rfl (asg (v := .int _ _) rfl) ?_
    refine TL.nil (nt ?_)
    refine TC.seq ?_
    refine TC.region ?_
    refine q rfl rfl (mv (v := .pointer _) rfl) ?_
    refine q rfl rfl (mv (v := .int _ _) rfl) ?_
    refine e rfl ?_
    refine cl (qat_no b mb L.length nxt A L id h) rfl PkL.p trivial ?_
    intro _ _
    change TL _ _ _ _ _ _ _ _ (sepL [_, _, _, _])
    refine q rfl rfl (mv (v := .tuple _) rfl) ?_
    refine q rfl rfl (pu (v := .pointer _) (fun _ => rfl)) ?_
    refine q rfl rfl (pu (v := .int _ _) (fun _ => rfl)) ?_
    refine q rfl rfl (asg (v := .pointer _) rfl) ?_
    refine q rfl rfl (asg (v := .int _ _) rfl) ?_
    refine TL.nil (nt ?_)
    refine TC.seq ?_
    refine TC.seq ?_
    refine TC.region ?_
    refine q rfl rfl (mv (v := .int _ _) rfl) ?_
    refine q rfl rfl (neI rfl rfl) ?_
    refine TL.nil (nt ?_)
    refine TC.condT rfl ?_
    refine TC.seq ?_
    refine TC.region ?_
    refine q rfl rfl (asg (v := .int _ _) rfl) ?_
    refine TL.nil (nt ?_)
    refine TC.ret (rt ?_)
    exact Ret.i () [_] ⟨rfl, trivial⟩ rfl trivial (ent_close ⟨A, mb⟩ hW (ent_take 0 rfl (ent_take 0 rfl (ent_take 0 rfl (ent_take 0 rfl (ent_nil _))))))

set_option maxRecDepth 4000 in
theorem qpar_nil (id : Int) : FSpec Try.prog 11 [.pointer none, .int .i64 id] noRd [] (fun _ : Unit => .int .i64 (-1)) (fun _ => True) (fun _ => []) := by
  refine FSpec.intro (rs := [.tmp 4]) (by kernel_rfl) Try.func11 rfl Try.ntmps11 (by rfl) rfl ?_
  intro F _
  change TC _ _ _ _ _ _ _ (sepL [_])
  refine TC.seq ?_
  refine TC.region ?_
  refine q rfl rfl (asg (v := .int _ _) rfl) ?_
  refine TL.nil (nt ?_)
  refine TC.seq ?_
  refine TC.region ?_
  refine q rfl rfl (mv (v := .pointer _) rfl) ?_
  refine q rfl rfl (mv (v := .int _ _) rfl) ?_
  refine e rfl ?_
  refine cl (qat_nil id) rfl (picked_nil _) trivial ?_
  intro _ _
  change TL _ _ _ _ _ _ _ _ (sepL [_])
  refine q rfl rfl (mv (v := .tuple _) rfl) ?_
  refine q rfl rfl (pu (v := .pointer _) (fun _ => rfl)) ?_
  refine q rfl rfl (pu (v := .int _ _) (fun _ => rfl)) ?_
  refine q rfl rfl (asg (v := .pointer _) rfl) ?_
  refine q rfl rfl (asg (v := .int _ _) rfl) ?_
  refine TL.nil (nt ?_)
  refine TC.seq ?_
  refine TC.seq ?_
  refine TC.region ?_
  refine q rfl rfl (mv (v := .int _ _) rfl) ?_
  refine q rfl rfl (neI rfl rfl) ?_
  refine TL.nil (nt ?_)
  refine TC.condT rfl ?_
  refine TC.seq ?_
  refine TC.region ?_
  refine q rfl rfl (asg (v := .int _ _) rfl) ?_
  refine TL.nil (nt ?_)
  refine TC.ret (rt ?_)
  exact Ret.i () [_] ⟨rfl, trivial⟩ rfl trivial (ent_take 0 rfl (ent_nil _))

set_option maxRecDepth 4000 in
set_option maxHeartbeats 1000000 in
theorem qcharge_ok (b : Nat) (L : List Qn) (nxt : Int) (id n : Int) : FSpec Try.prog 14 [.pointer (some ⟨b, 0, none⟩), .int .i64 id, .int .i64 n] noRd [isQ b L nxt] (fun _ : Unit => .int .i64 (chargeQ L id n).2) (fun _ => True) (fun _ => [isQ b (chargeQ L id n).1 nxt]) := by
  refine FSpec.intro (rs := [.tmp 6]) (by kernel_rfl) Try.func14 rfl Try.ntmps14 (by rfl) rfl ?_
  intro F _
  change TC _ _ _ _ _ _ _ (sepL [_, _])
  refine TC.open 0 rfl (fun x0 hx0 => ?_)
  obtain ⟨A, mb⟩ := x0
  have hW := hx0
  change TC _ _ _ _ _ _ _ (sepL [_, _, _, _])
  dsimp only at hW ⊢
  by_cases h : hasQ L id
  · obtain ⟨t, ht, rfl⟩ := h
    have h : hasQ L t.id := ⟨t, ht, rfl⟩
    obtain ⟨e1, e2, e3, e4⟩ := use_yes hW.nd ht
    have hb := hW.big ht
    obtain ⟨M, hM⟩ := perm_mem ht
    haveI := tQ_rd (A := A) ht
    refine TC.seq ?_
    refine TC.region ?_
    refine q rfl rfl (asg (v := .int _ _) rfl) ?_
    refine TL.nil (nt ?_)
    refine TC.seq ?_
    refine TC.region ?_
    refine q rfl rfl (mv (v := .pointer _) rfl) ?_
    refine q rfl rfl (mv (v := .int _ _) rfl) ?_
    refine e rfl ?_
    refine cl (qat_yes b mb L.length nxt A L t.id h) rfl PkL.p trivial ?_
    intro _ _
    change TL _ _ _ _ _ _ _ _ (sepL [_, _, _, _])
    refine q rfl rfl (mv (v := .tuple _) rfl) ?_
    refine q rfl rfl (pu (v := .pointer _) (fun _ => rfl)) ?_
    refine q rfl rfl (pu (v := .int _ _) (fun _ => rfl)) ?_
    refine q rfl rfl (asg (v := .pointer _) rfl) ?_
    refine q rfl rfl (asg (v := .int _ _) rfl) ?_
    refine TL.nil (nt ?_)
    refine TC.seq ?_
    refine TC.block ?_
    refine TC.seq ?_
    refine TC.region ?_
    refine q rfl rfl (mv (v := .int _ _) rfl) ?_
    refine q rfl rfl (neI rfl rfl) ?_
    refine q rfl rfl (asg (v := .bool _) rfl) ?_
    refine TL.nil (nt ?_)
    refine TC.condF rfl ?_
    refine TC.seq ?_
    refine TC.region ?_
    refine q rfl rfl (mv (v := .int _ _) rfl) ?_
    refine q rfl rfl (lss rfl rfl) ?_
    refine q rfl rfl (asg (v := .bool _) rfl) ?_
    refine TL.nil (nt ?_)
    first | refine TC.condD rfl (fun h0 => ?_) (fun h0 => ?_) | refine TC.cond rfl (fun h0 => ?_) (fun h0 => ?_)
    · have hv : chargeQ L t.id n = (L, 1) := by rw [chargeQ, if_neg (fun h2 => h2 h), if_pos h0]
      rw [hv]
      dsimp only
      refine TC.seq ?_
      refine TC.region ?_
      refine q rfl rfl (asg (v := .int _ _) rfl) ?_
      refine TL.nil (nt ?_)
      refine TC.ret (rb (rt ?_))
      exact Ret.i () [_] ⟨rfl, trivial⟩ rfl trivial (ent_close (⟨A, mb⟩ : QRep) hW (by repeat (first | exact ent_nil _ | refine ent_take 0 rfl ?_ | refine ent_take 1 rfl ?_ | refine ent_take 2 rfl ?_ | refine ent_take 3 rfl ?_ | refine ent_take 4 rfl ?_ | refine ent_take 5 rfl ?_ | refine ent_take 6 rfl ?_ | refine ent_take 7 rfl ?_ | refine ent_take 8 rfl ?_ | refine ent_take 9 rfl ?_ | refine ent_take 10 rfl ?_ | refine ent_take 11 rfl ?_ | refine ent_take 12 rfl ?_)))
    · refine TC.seq ?_
      refine TC.region ?_
      refine q rfl rfl (mv (v := .pointer _) rfl) ?_
      first | refine q rfl rfl (nc rfl) ?_ | refine q rfl rfl (ncF rfl) ?_ | refine q rfl rfl (ncS rfl (by first | assumption | (simp [ints_length] <;> omega))) ?_
      first | refine q rfl rfl (fa 0 rfl rfl) ?_ | refine q rfl rfl (faS 0 rfl rfl (by first | assumption | (simp [ints_length] <;> omega))) ?_
      refine q rfl rfl (mv (v := .int _ _) rfl) ?_
      refine e rfl ?_
      refine cl (qfits_ok (A t.id) t.lim t.chg (givQ L t.id) t.par (kidQ L t.id) (by omega) (by omega) n (by omega)) rfl (picked_nil _) RdI.rd ?_
      intro _ _
      change TL _ _ _ _ _ _ _ _ (sepL [_, _, _, _])
      first | refine q rfl rfl (notD rfl) ?_ | refine q rfl rfl (notB rfl) ?_
      refine q rfl rfl (asg (v := .bool _) rfl) ?_
      refine TL.nil (nt ?_)
      first | refine TC.condD rfl (fun h1 => ?_) (fun h1 => ?_) | refine TC.cond rfl (fun h1 => ?_) (fun h1 => ?_)
      · have hv : chargeQ L t.id n = (L, 5) := by rw [chargeQ, if_neg (fun h2 => h2 h), if_neg h0, if_pos (by rw [e1, e2]; exact h1)]
        rw [hv]
        dsimp only
        refine TC.seq ?_
        refine TC.region ?_
        refine q rfl rfl (asg (v := .int _ _) rfl) ?_
        refine TL.nil (nt ?_)
        refine TC.ret (rb (rt ?_))
        exact Ret.i () [_] ⟨rfl, trivial⟩ rfl trivial (ent_close (⟨A, mb⟩ : QRep) hW (by repeat (first | exact ent_nil _ | refine ent_take 0 rfl ?_ | refine ent_take 1 rfl ?_ | refine ent_take 2 rfl ?_ | refine ent_take 3 rfl ?_ | refine ent_take 4 rfl ?_ | refine ent_take 5 rfl ?_ | refine ent_take 6 rfl ?_ | refine ent_take 7 rfl ?_ | refine ent_take 8 rfl ?_ | refine ent_take 9 rfl ?_ | refine ent_take 10 rfl ?_ | refine ent_take 11 rfl ?_ | refine ent_take 12 rfl ?_)))
      · have h2 : n ≤ t.lim - (t.chg + givQ L t.id) := Decidable.not_not.1 h1
        have hv : chargeQ L t.id n = (setQ L t.id (t.chg + n), 0) := by rw [chargeQ, if_neg (fun h2 => h2 h), if_neg h0, if_neg (by rw [e1, e2]; exact fun h3 => h3 h2), e3]
        rw [hv]
        dsimp only
        have hW2 : WQ (setQ L t.id (t.chg + n)) nxt := hW.set ht (by omega) (by omega)
        refine TC.weak (ent_openB 2 rfl hM) ?_
        refine TC.skip (nb (nt ?_))
        refine TC.seq ?_
        refine TC.region ?_
        refine q rfl rfl (mv (v := .pointer _) rfl) ?_
        first | refine q rfl rfl (nc rfl) ?_ | refine q rfl rfl (ncF rfl) ?_ | refine q rfl rfl (ncS rfl (by first | assumption | (simp [ints_length] <;> omega))) ?_
        first | refine q rfl rfl (fa 0 rfl rfl) ?_ | refine q rfl rfl (faS 0 rfl rfl (by first | assumption | (simp [ints_length] <;> omega))) ?_
        first | refine q rfl rfl (fa 1 rfl rfl) ?_ | refine q rfl rfl (faS 1 rfl rfl (by first | assumption | (simp [ints_length] <;> omega))) ?_
        first | refine q rfl rfl (ld rfl rfl rfl) ?_ | refine q rfl rfl (ldS rfl rfl rfl) ?_
        refine q rfl rfl (mv (v := .int _ _) rfl) ?_
        first | refine q rfl rfl (addI rfl rfl (by omega) (by omega)) ?_ | refine q rfl rfl (add rfl rfl rfl) ?_
        first | refine q rfl rfl (nc rfl) ?_ | refine q rfl rfl (ncF rfl) ?_ | refine q rfl rfl (ncS rfl (by first | assumption | (simp [ints_length] <;> omega))) ?_
        first | refine q rfl rfl (fa 0 rfl rfl) ?_ | refine q rfl rfl (faS 0 rfl rfl (by first | assumption | (simp [ints_length] <;> omega))) ?_
        first | refine q rfl rfl (fa 1 rfl rfl) ?_ | refine q rfl rfl (faS 1 rfl rfl (by first | assumption | (simp [ints_length] <;> omega))) ?_
        refine e0 ?_
        refine st (v := .int _ _) (vs := [_]) 1 rfl rfl rfl rfl rfl rfl (Nat.le_of_ble_eq_true rfl) rfl ?_
        refine TL.nil (nt ?_)
        refine TC.seq ?_
        refine TC.region ?_
        refine q rfl rfl (asg (v := .int _ _) rfl) ?_
        refine TL.nil (nt ?_)
        refine TC.ret ?_
        exact Ret.i () [_] ⟨rfl, trivial⟩ rfl trivial (ent_close (⟨A, mb⟩ : QRep) hW2 (ent_take 2 rfl (ent_takeE 2 rfl (by dsimp only; rw [fQ_set, setQ_len]) (ent_closeB 0 0 (⟨t.id, t.par, t.lim, t.chg + n⟩ : Qn) rfl rfl (by dsimp only [tQ]; rw [(setQ_giv L t.id (t.chg + n) t.id).1, (setQ_giv L t.id (t.chg + n) t.id).2]; rfl) (fun u _ => setQ_one t.id (t.chg + n) u) (setQ_perm hW.nd hM (t.chg + n)) (ent_take 0 rfl (ent_nil _))))))
  · have hv : chargeQ L id n = (L, 6) := if_pos h
    rw [hv]
    dsimp only
    refine TC.seq ?_
    refine TC.region ?_
    refine q rfl rfl (asg (v := .int _ _) rfl) ?_
    refine TL.nil (nt ?_)
    refine TC.seq ?_
    refine TC.region ?_
    refine q rfl rfl (mv (v := .pointer _) rfl) ?_
    refine q rfl rfl (mv (v := .int _ _) rfl) ?_
    refine e rfl ?_
    refine cl (qat_no b mb L.length nxt A L id h) rfl PkL.p trivial ?_
    intro _ _
    change TL _ _ _ _ _ _ _ _ (sepL [_, _, _, _])
    refine q rfl rfl (mv (v := .tuple _) rfl) ?_
    refine q rfl rfl (pu (v := .pointer _) (fun _ => rfl)) ?_
    refine q rfl rfl (pu (v := .int _ _) (fun _ => rfl)) ?_
    refine q rfl rfl (asg (v := .pointer _) rfl) ?_
    refine q rfl rfl (asg (v := .int _ _) rfl) ?_
    refine TL.nil (nt ?_)
    refine TC.seq ?_
    refine TC.block ?_
    refine TC.seq ?_
    refine TC.region ?_
    refine q rfl rfl (mv (v := .int _ _) rfl) ?_
    refine q rfl rfl (neI rfl rfl) ?_
    refine q rfl rfl (asg (v := .bool _) rfl) ?_
    refine TL.nil (nt ?_)
    refine TC.condT rfl ?_
    refine TC.seq ?_
    refine TC.region ?_
    refine q rfl rfl (mv (v := .int _ _) rfl) ?_
    refine q rfl rfl (asg (v := .int _ _) rfl) ?_
    refine TL.nil (nt ?_)
    refine TC.ret (rb (rt ?_))
    exact Ret.i () [_] ⟨rfl, trivial⟩ rfl trivial (ent_close ⟨A, mb⟩ hW (ent_take 0 rfl (ent_take 0 rfl (ent_take 0 rfl (ent_take 0 rfl (ent_nil _))))))

set_option maxRecDepth 4000 in
theorem qcharge_nil (id n : Int) : FSpec Try.prog 14 [.pointer none, .int .i64 id, .int .i64 n] noRd [] (fun _ : Unit => .int .i64 1) (fun _ => True) (fun _ => []) := by
  refine FSpec.intro (rs := [.tmp 6]) (by kernel_rfl) Try.func14 rfl Try.ntmps14 (by rfl) rfl ?_
  intro F _
  change TC _ _ _ _ _ _ _ (sepL [_])
  refine TC.seq ?_
  refine TC.region ?_
  refine q rfl rfl (asg (v := .int _ _) rfl) ?_
  refine TL.nil (nt ?_)
  refine TC.seq ?_
  refine TC.region ?_
  refine q rfl rfl (mv (v := .pointer _) rfl) ?_
  refine q rfl rfl (mv (v := .int _ _) rfl) ?_
  refine e rfl ?_
  refine cl (qat_nil id) rfl (picked_nil _) trivial ?_
  intro _ _
  change TL _ _ _ _ _ _ _ _ (sepL [_])
  refine q rfl rfl (mv (v := .tuple _) rfl) ?_
  refine q rfl rfl (pu (v := .pointer _) (fun _ => rfl)) ?_
  refine q rfl rfl (pu (v := .int _ _) (fun _ => rfl)) ?_
  refine q rfl rfl (asg (v := .pointer _) rfl) ?_
  refine q rfl rfl (asg (v := .int _ _) rfl) ?_
  refine TL.nil (nt ?_)
  refine TC.seq ?_
  refine TC.block ?_
  refine TC.seq ?_
  refine TC.region ?_
  refine q rfl rfl (mv (v := .int _ _) rfl) ?_
  refine q rfl rfl (neI rfl rfl) ?_
  refine q rfl rfl (asg (v := .bool _) rfl) ?_
  refine TL.nil (nt ?_)
  refine TC.condT rfl ?_
  refine TC.seq ?_
  refine TC.region ?_
  refine q rfl rfl (mv (v := .int _ _) rfl) ?_
  refine q rfl rfl (asg (v := .int _ _) rfl) ?_
  refine TL.nil (nt ?_)
  refine TC.ret (rb (rt ?_))
  exact Ret.i () [_] ⟨rfl, trivial⟩ rfl trivial (ent_take 0 rfl (ent_nil _))

set_option maxRecDepth 4000 in
set_option maxHeartbeats 1000000 in
theorem qrefund_ok (b : Nat) (L : List Qn) (nxt : Int) (id n : Int) : FSpec Try.prog 16 [.pointer (some ⟨b, 0, none⟩), .int .i64 id, .int .i64 n] noRd [isQ b L nxt] (fun _ : Unit => .int .i64 (refundQ L id n).2) (fun _ => True) (fun _ => [isQ b (refundQ L id n).1 nxt]) := by
  refine FSpec.intro (rs := [.tmp 6]) (by kernel_rfl) Try.func16 rfl Try.ntmps16 (by rfl) rfl ?_
  intro F _
  change TC _ _ _ _ _ _ _ (sepL [_, _])
  refine TC.open 0 rfl (fun x0 hx0 => ?_)
  obtain ⟨A, mb⟩ := x0
  have hW := hx0
  change TC _ _ _ _ _ _ _ (sepL [_, _, _, _])
  dsimp only at hW ⊢
  by_cases h : hasQ L id
  · obtain ⟨t, ht, rfl⟩ := h
    have h : hasQ L t.id := ⟨t, ht, rfl⟩
    obtain ⟨e1, e2, e3, e4⟩ := use_yes hW.nd ht
    have hb := hW.big ht
    obtain ⟨M, hM⟩ := perm_mem ht
    haveI := tQ_rd (A := A) ht
    refine TC.seq ?_
    refine TC.region ?_
    refine q rfl rfl (asg (v := .int _ _) rfl) ?_
    refine TL.nil (nt ?_)
    refine TC.seq ?_
    refine TC.region ?_
    refine q rfl rfl (mv (v := .pointer _) rfl) ?_
    refine q rfl rfl (mv (v := .int _ _) rfl) ?_
    refine e rfl ?_
    refine cl (qat_yes b mb L.length nxt A L t.id h) rfl PkL.p trivial ?_
    intro _ _
    change TL _ _ _ _ _ _ _ _ (sepL [_, _, _, _])
    refine q rfl rfl (mv (v := .tuple _) rfl) ?_
    refine q rfl rfl (pu (v := .pointer _) (fun _ => rfl)) ?_
    refine q rfl rfl (pu (v := .int _ _) (fun _ => rfl)) ?_
    refine q rfl rfl (asg (v := .pointer _) rfl) ?_
    refine q rfl rfl (asg (v := .int _ _) rfl) ?_
    refine TL.nil (nt ?_)
    refine TC.seq ?_
    refine TC.block ?_
    refine TC.seq ?_
    refine TC.region ?_
    refine q rfl rfl (mv (v := .int _ _) rfl) ?_
    refine q rfl rfl (neI rfl rfl) ?_
    refine q rfl rfl (asg (v := .bool _) rfl) ?_
    refine TL.nil (nt ?_)
    refine TC.condF rfl ?_
    refine TC.seq ?_
    refine TC.region ?_
    refine q rfl rfl (mv (v := .int _ _) rfl) ?_
    refine q rfl rfl (lss rfl rfl) ?_
    refine q rfl rfl (mv (v := .bool _) rfl) ?_
    refine TL.split 22 rfl (fun h0 => ?_) (fun h0 => ?_)
    · have h0 := of_decide_eq_true h0
      refine qs rfl rfl ?_
      refine qs rfl rfl ?_
      refine qs rfl rfl ?_
      refine qs rfl rfl ?_
      refine qs rfl rfl ?_
      refine qs rfl rfl ?_
      refine qs rfl rfl ?_
      first | refine q rfl rfl (pkT (v := .bool _) rfl rfl) ?_ | refine q rfl rfl (pkF (v := .bool _) rfl rfl) ?_
      refine q rfl rfl (asg (v := .bool _) rfl) ?_
      refine TL.nil (nt ?_)
      refine TC.condT rfl ?_
      have hv : refundQ L t.id n = (L, 1) := by rw [refundQ, if_neg (fun h2 => h2 h), if_pos (.inl h0)]
      rw [hv]
      dsimp only
      refine TC.seq ?_
      refine TC.region ?_
      refine q rfl rfl (asg (v := .int _ _) rfl) ?_
      refine TL.nil (nt ?_)
      refine TC.ret (rb (rt ?_))
      exact Ret.i () [_] ⟨rfl, trivial⟩ rfl trivial (ent_close (⟨A, mb⟩ : QRep) hW (by repeat (first | exact ent_nil _ | refine ent_take 0 rfl ?_ | refine ent_take 1 rfl ?_ | refine ent_take 2 rfl ?_ | refine ent_take 3 rfl ?_ | refine ent_take 4 rfl ?_ | refine ent_take 5 rfl ?_ | refine ent_take 6 rfl ?_ | refine ent_take 7 rfl ?_ | refine ent_take 8 rfl ?_ | refine ent_take 9 rfl ?_ | refine ent_take 10 rfl ?_ | refine ent_take 11 rfl ?_ | refine ent_take 12 rfl ?_)))
    · have h0 := of_decide_eq_false h0
      refine qg rfl rfl rfl (mv (v := .int _ _) rfl) ?_
      refine qg rfl rfl rfl (mv (v := .pointer _) rfl) ?_
      first | refine qg rfl rfl rfl (nc rfl) ?_ | refine qg rfl rfl rfl (ncF rfl) ?_ | refine qg rfl rfl rfl (ncS rfl (by first | assumption | (simp [ints_length] <;> omega))) ?_
      first | refine qg rfl rfl rfl (fa 0 rfl rfl) ?_ | refine qg rfl rfl rfl (faS 0 rfl rfl (by first | assumption | (simp [ints_length] <;> omega))) ?_
      first | refine qg rfl rfl rfl (fa 1 rfl rfl) ?_ | refine qg rfl rfl rfl (faS 1 rfl rfl (by first | assumption | (simp [ints_length] <;> omega))) ?_
      first | refine qg rfl rfl rfl (ld rfl rfl rfl) ?_ | refine qg rfl rfl rfl (ldS rfl rfl rfl) ?_
      refine qg rfl rfl rfl (gtr rfl rfl) ?_
      first | refine q rfl rfl (pkT (v := .bool _) rfl rfl) ?_ | refine q rfl rfl (pkF (v := .bool _) rfl rfl) ?_
      refine q rfl rfl (asg (v := .bool _) rfl) ?_
      refine TL.nil (nt ?_)
      first | refine TC.condD rfl (fun h1 => ?_) (fun h1 => ?_) | refine TC.cond rfl (fun h1 => ?_) (fun h1 => ?_)
      · have hv : refundQ L t.id n = (L, 1) := by rw [refundQ, if_neg (fun h2 => h2 h), e3, if_pos (.inr h1)]
        rw [hv]
        dsimp only
        refine TC.seq ?_
        refine TC.region ?_
        refine q rfl rfl (asg (v := .int _ _) rfl) ?_
        refine TL.nil (nt ?_)
        refine TC.ret (rb (rt ?_))
        exact Ret.i () [_] ⟨rfl, trivial⟩ rfl trivial (ent_close (⟨A, mb⟩ : QRep) hW (by repeat (first | exact ent_nil _ | refine ent_take 0 rfl ?_ | refine ent_take 1 rfl ?_ | refine ent_take 2 rfl ?_ | refine ent_take 3 rfl ?_ | refine ent_take 4 rfl ?_ | refine ent_take 5 rfl ?_ | refine ent_take 6 rfl ?_ | refine ent_take 7 rfl ?_ | refine ent_take 8 rfl ?_ | refine ent_take 9 rfl ?_ | refine ent_take 10 rfl ?_ | refine ent_take 11 rfl ?_ | refine ent_take 12 rfl ?_)))
      · have hv : refundQ L t.id n = (setQ L t.id (t.chg - n), 0) := by rw [refundQ, if_neg (fun h2 => h2 h), e3, if_neg (fun h3 => h3.elim (fun h4 => h0 h4) (fun h4 => h1 h4))]
        rw [hv]
        dsimp only
        have hW2 : WQ (setQ L t.id (t.chg - n)) nxt := hW.set ht (by omega) (by omega)
        refine TC.weak (ent_openB 2 rfl hM) ?_
        refine TC.skip (nb (nt ?_))
        refine TC.seq ?_
        refine TC.region ?_
        refine q rfl rfl (mv (v := .pointer _) rfl) ?_
        first | refine q rfl rfl (nc rfl) ?_ | refine q rfl rfl (ncF rfl) ?_ | refine q rfl rfl (ncS rfl (by first | assumption | (simp [ints_length] <;> omega))) ?_
        first | refine q rfl rfl (fa 0 rfl rfl) ?_ | refine q rfl rfl (faS 0 rfl rfl (by first | assumption | (simp [ints_length] <;> omega))) ?_
        first | refine q rfl rfl (fa 1 rfl rfl) ?_ | refine q rfl rfl (faS 1 rfl rfl (by first | assumption | (simp [ints_length] <;> omega))) ?_
        first | refine q rfl rfl (ld rfl rfl rfl) ?_ | refine q rfl rfl (ldS rfl rfl rfl) ?_
        refine q rfl rfl (mv (v := .int _ _) rfl) ?_
        first | refine q rfl rfl (subI rfl rfl (by omega) (by omega)) ?_ | refine q rfl rfl (sub rfl rfl rfl) ?_
        first | refine q rfl rfl (nc rfl) ?_ | refine q rfl rfl (ncF rfl) ?_ | refine q rfl rfl (ncS rfl (by first | assumption | (simp [ints_length] <;> omega))) ?_
        first | refine q rfl rfl (fa 0 rfl rfl) ?_ | refine q rfl rfl (faS 0 rfl rfl (by first | assumption | (simp [ints_length] <;> omega))) ?_
        first | refine q rfl rfl (fa 1 rfl rfl) ?_ | refine q rfl rfl (faS 1 rfl rfl (by first | assumption | (simp [ints_length] <;> omega))) ?_
        refine e0 ?_
        refine st (v := .int _ _) (vs := [_]) 1 rfl rfl rfl rfl rfl rfl (Nat.le_of_ble_eq_true rfl) rfl ?_
        refine TL.nil (nt ?_)
        refine TC.seq ?_
        refine TC.region ?_
        refine q rfl rfl (asg (v := .int _ _) rfl) ?_
        refine TL.nil (nt ?_)
        refine TC.ret ?_
        exact Ret.i () [_] ⟨rfl, trivial⟩ rfl trivial (ent_close (⟨A, mb⟩ : QRep) hW2 (ent_take 2 rfl (ent_takeE 2 rfl (by dsimp only; rw [fQ_set, setQ_len]) (ent_closeB 0 0 (⟨t.id, t.par, t.lim, t.chg - n⟩ : Qn) rfl rfl (by dsimp only [tQ]; rw [(setQ_giv L t.id (t.chg - n) t.id).1, (setQ_giv L t.id (t.chg - n) t.id).2]; rfl) (fun u _ => setQ_one t.id (t.chg - n) u) (setQ_perm hW.nd hM (t.chg - n)) (ent_take 0 rfl (ent_nil _))))))
  · have hv : refundQ L id n = (L, 6) := if_pos h
    rw [hv]
    dsimp only
    refine TC.seq ?_
    refine TC.region ?_
    refine q rfl rfl (asg (v := .int _ _) rfl) ?_
    refine TL.nil (nt ?_)
    refine TC.seq ?_
    refine TC.region ?_
    refine q rfl rfl (mv (v := .pointer _) rfl) ?_
    refine q rfl rfl (mv (v := .int _ _) rfl) ?_
    refine e rfl ?_
    refine cl (qat_no b mb L.length nxt A L id h) rfl PkL.p trivial ?_
    intro _ _
    change TL _ _ _ _ _ _ _ _ (sepL [_, _, _, _])
    refine q rfl rfl (mv (v := .tuple _) rfl) ?_
    refine q rfl rfl (pu (v := .pointer _) (fun _ => rfl)) ?_
    refine q rfl rfl (pu (v := .int _ _) (fun _ => rfl)) ?_
    refine q rfl rfl (asg (v := .pointer _) rfl) ?_
    refine q rfl rfl (asg (v := .int _ _) rfl) ?_
    refine TL.nil (nt ?_)
    refine TC.seq ?_
    refine TC.block ?_
    refine TC.seq ?_
    refine TC.region ?_
    refine q rfl rfl (mv (v := .int _ _) rfl) ?_
    refine q rfl rfl (neI rfl rfl) ?_
    refine q rfl rfl (asg (v := .bool _) rfl) ?_
    refine TL.nil (nt ?_)
    refine TC.condT rfl ?_
    refine TC.seq ?_
    refine TC.region ?_
    refine q rfl rfl (mv (v := .int _ _) rfl) ?_
    refine q rfl rfl (asg (v := .int _ _) rfl) ?_
    refine TL.nil (nt ?_)
    refine TC.ret (rb (rt ?_))
    exact Ret.i () [_] ⟨rfl, trivial⟩ rfl trivial (ent_close ⟨A, mb⟩ hW (ent_take 0 rfl (ent_take 0 rfl (ent_take 0 rfl (ent_take 0 rfl (ent_nil _))))))

set_option maxRecDepth 4000 in
theorem qrefund_nil (id n : Int) : FSpec Try.prog 16 [.pointer none, .int .i64 id, .int .i64 n] noRd [] (fun _ : Unit => .int .i64 1) (fun _ => True) (fun _ => []) := by
  refine FSpec.intro (rs := [.tmp 6]) (by kernel_rfl) Try.func16 rfl Try.ntmps16 (by rfl) rfl ?_
  intro F _
  change TC _ _ _ _ _ _ _ (sepL [_])
  refine TC.seq ?_
  refine TC.region ?_
  refine q rfl rfl (asg (v := .int _ _) rfl) ?_
  refine TL.nil (nt ?_)
  refine TC.seq ?_
  refine TC.region ?_
  refine q rfl rfl (mv (v := .pointer _) rfl) ?_
  refine q rfl rfl (mv (v := .int _ _) rfl) ?_
  refine e rfl ?_
  refine cl (qat_nil id) rfl (picked_nil _) trivial ?_
  intro _ _
  change TL _ _ _ _ _ _ _ _ (sepL [_])
  refine q rfl rfl (mv (v := .tuple _) rfl) ?_
  refine q rfl rfl (pu (v := .pointer _) (fun _ => rfl)) ?_
  refine q rfl rfl (pu (v := .int _ _) (fun _ => rfl)) ?_
  refine q rfl rfl (asg (v := .pointer _) rfl) ?_
  refine q rfl rfl (asg (v := .int _ _) rfl) ?_
  refine TL.nil (nt ?_)
  refine TC.seq ?_
  refine TC.block ?_
  refine TC.seq ?_
  refine TC.region ?_
  refine q rfl rfl (mv (v := .int _ _) rfl) ?_
  refine q rfl rfl (neI rfl rfl) ?_
  refine q rfl rfl (asg (v := .bool _) rfl) ?_
  refine TL.nil (nt ?_)
  refine TC.condT rfl ?_
  refine TC.seq ?_
  refine TC.region ?_
  refine q rfl rfl (mv (v := .int _ _) rfl) ?_
  refine q rfl rfl (asg (v := .int _ _) rfl) ?_
  refine TL.nil (nt ?_)
  refine TC.ret (rb (rt ?_))
  exact Ret.i () [_] ⟨rfl, trivial⟩ rfl trivial (ent_take 0 rfl (ent_nil _))

end Go.Proofs.Ytmffldmipddngaa
