/-
  Proved here: what functions of this program compute, each as a contract over symbolic states, under the premises that each theorem names (most lines printed by a program of the prover).
-/
import Derived.Test.YtgmniphegombhaaMtM
namespace Go.Proofs.Ytgmniphegombhaa
open Go Go.QM
set_option maxRecDepth 4000 in
theorem same_ok (a1 : Option Addr) (c1 : Nat) (xs : List Int) (a2 : Option Addr) (c2 : Nat) (ys : List Int) (hl : xs.length ≤ 1000000000) : FSpec Try.prog 22 [.slice a1 xs.length c1, .slice a2 ys.length c2] (fun F => (∃ E, RdS F E a1 (ints xs)) ∧ ∃ E, RdS F E a2 (ints ys)) [] (fun _ : Unit => .bool (decide (xs = ys))) (fun _ => True) (fun _ => []) := by
  refine FSpec.intro (rs := [.tmp 4]) (by kernel_rfl) Try.func22 rfl Try.ntmps22 (by rfl) rfl ?_
  intro F ⟨⟨E1, hF1⟩, ⟨E2, hF2⟩⟩
  change TC _ _ _ _ _ _ _ (sepL [_])
  haveI : RdSI F a1 E1 (ints xs) := ⟨hF1⟩
  haveI : RdSI F a2 E2 (ints ys) := ⟨hF2⟩
  refine TC.seq ?_
  refine TC.region ?_
  refine q rfl rfl (asg (v := .bool _) rfl) ?_
  refine TL.nil (nt ?_)
  refine TC.seq ?_
  refine TC.seq ?_
  refine TC.region ?_
  refine q rfl rfl (mv (v := .slice _ _ _) rfl) ?_
  refine q rfl rfl (len 3 1 rfl rfl) ?_
  refine q rfl rfl (mv (v := .slice _ _ _) rfl) ?_
  refine q rfl rfl (len 3 1 rfl rfl) ?_
  refine q rfl rfl (neI rfl rfl) ?_
  refine TL.nil (nt ?_)
  first | refine TC.condD rfl (fun hne => ?_) (fun hne => ?_) | refine TC.cond rfl (fun hne => ?_) (fun hne => ?_)
  · refine TC.seq ?_
    refine TC.region ?_
    refine q rfl rfl (asg (v := .bool _) rfl) ?_
    refine TL.nil (nt ?_)
    refine TC.ret (rt ?_)
    have hd : decide (xs = ys) = false := decide_eq_false (fun e => hne (by rw [e]))
    exact Ret.i () [_] ⟨rfl, trivial⟩ (by rw [hd]; rfl) trivial (ent_take 0 rfl (ent_nil _))
  · have hle : xs.length = ys.length := by omega
    refine TC.skip (nt ?_)
    refine TC.seq ?_
    refine TC.seq ?_
    refine TC.region ?_
    refine q rfl rfl (asg (v := .int _ _) rfl) ?_
    refine TL.nil (nt ?_)
    refine TC.block ?_
    refine TC.loop (ι := Nat) (fun i => i ≤ xs.length ∧ xs.take i = ys.take i) (fun i => [(0, .slice a1 xs.length c1), (1, .slice a2 ys.length c2), (5, .int .i64 i)]) (fun i => sepL [F]) (fun i => xs.length - i) 0 ⟨Nat.zero_le _, rfl⟩ ⟨rfl, rfl, rfl, trivial⟩ (ent_take 0 rfl (ent_nil _)) ?_
    rintro k ⟨hinv, hsame⟩ ρ0
    dsimp only [updL] at hinv hsame ⊢
    refine TC.seq ?_
    refine TC.seq ?_
    refine TC.region ?_
    refine q rfl rfl (mv (v := .int _ _) rfl) ?_
    refine q rfl rfl (mv (v := .slice _ _ _) rfl) ?_
    refine q rfl rfl (len 3 1 rfl rfl) ?_
    refine q rfl rfl (lss rfl rfl) ?_
    refine TL.nil (nt ?_)
    first | refine TC.condD rfl (fun hlt => ?_) (fun hlt => ?_) | refine TC.cond rfl (fun hlt => ?_) (fun hlt => ?_)
    · have hlt : k < xs.length := by omega
      have hlt2 : k < ys.length := by omega
      obtain ⟨u, hu⟩ : ∃ u, xs[k]? = some u := ⟨xs[k], List.getElem?_eq_getElem hlt⟩
      obtain ⟨v, hv⟩ : ∃ v, ys[k]? = some v := ⟨ys[k], List.getElem?_eq_getElem hlt2⟩
      have hil : 0 < (ints xs).length := by rw [ints_length]; omega
      have hil2 : 0 < (ints ys).length := by rw [ints_length]; omega
      refine TC.skip (nt ?_)
      refine TC.seq ?_
      refine TC.block ?_
      refine TC.seq ?_
      refine TC.draw _ [] [(0, false), (1, false), (2, false), (3, false), (4, false), (5, false), (6, false), (7, false), (8, false)] (by kernel_rfl) (by kernel_rfl) (ent.refl _) ?_
      refine dq rfl rfl rfl (mv (v := .slice _ _ _) rfl) ?_
      refine dq rfl rfl rfl (mv (v := .int _ _) rfl) ?_
      first | refine dq rfl rfl rfl (ixS 3 1 rfl rfl rfl (by omega) (by first | assumption | (simp [ints_length] <;> omega))) ?_ | refine dq rfl rfl rfl (ixJ 3 1 rfl rfl rfl (by omega) (by omega) (by first | assumption | (simp [ints_length] <;> omega))) ?_ | refine dq rfl rfl rfl (ix 3 1 rfl rfl rfl (by omega) (by omega) rfl) ?_
      first | refine dq rfl rfl rfl (ld rfl rfl rfl) ?_ | refine dq rfl rfl rfl (ldS rfl rfl (ints_get hu)) ?_ | refine dq rfl rfl rfl (ldS rfl rfl (ints_get hv)) ?_ | refine dq rfl rfl rfl (ldS rfl rfl rfl) ?_
      refine dq rfl rfl rfl (mv (v := .slice _ _ _) rfl) ?_
      refine dq rfl rfl rfl (mv (v := .int _ _) rfl) ?_
      first | refine dq rfl rfl rfl (ixS 3 1 rfl rfl rfl (by omega) (by first | assumption | (simp [ints_length] <;> omega))) ?_ | refine dq rfl rfl rfl (ixJ 3 1 rfl rfl rfl (by omega) (by omega) (by first | assumption | (simp [ints_length] <;> omega))) ?_ | refine dq rfl rfl rfl (ix 3 1 rfl rfl rfl (by omega) (by omega) rfl) ?_
      first | refine dq rfl rfl rfl (ld rfl rfl rfl) ?_ | refine dq rfl rfl rfl (ldS rfl rfl (ints_get hu)) ?_ | refine dq rfl rfl rfl (ldS rfl rfl (ints_get hv)) ?_ | refine dq rfl rfl rfl (ldS rfl rfl rfl) ?_
      refine dq rfl rfl rfl (neI rfl rfl) ?_
      refine TD.nil (nt ?_)
      first | refine TC.condD rfl (fun hd => ?_) (fun hd => ?_) | refine TC.cond rfl (fun hd => ?_) (fun hd => ?_)
      · refine TC.seq ?_
        refine TC.region ?_
        refine q rfl rfl (asg (v := .bool _) rfl) ?_
        refine TL.nil (nt ?_)
        refine TC.ret (rb (rt (rt (rb (rt ?_)))))
        have hdd : decide (xs = ys) = false := decide_eq_false (fun e => by subst e; rw [hu] at hv; cases hv; exact hd rfl)
        exact Ret.i () [_] ⟨rfl, trivial⟩ (by rw [hdd]; rfl) trivial (ent_take 0 rfl (ent_nil _))
      · refine TC.skip (nb (nt ?_))
        refine TC.region ?_
        refine q rfl rfl (mv (v := .int _ _) rfl) ?_
        first | refine q rfl rfl (addI rfl rfl (by omega) (by omega)) ?_ | refine q rfl rfl (add rfl rfl rfl) ?_
        refine q rfl rfl (asg (v := .int _ _) rfl) ?_
        refine TL.nil (nt ?_)
        exact ⟨rfl, (k + 1), ⟨by omega, by rw [List.take_add_one, List.take_add_one, hsame, hu, hv, Decidable.not_not.1 hd]⟩, (by omega), ⟨rfl, rfl, rfl, trivial⟩, (ent_take 0 rfl (ent_nil _))⟩
    · obtain rfl : k = xs.length := by omega
      have hdd : decide (xs = ys) = true := decide_eq_true (by rw [List.take_length, hle, List.take_length] at hsame; exact hsame)
      refine TC.exit (et (et (eb (nt ?_))))
      refine TC.seq ?_
      refine TC.region ?_
      refine q rfl rfl (asg (v := .bool _) rfl) ?_
      refine TL.nil (nt ?_)
      refine TC.ret ?_
      exact Ret.i () [_] ⟨rfl, trivial⟩ (by rw [hdd]; rfl) trivial (ent_take 0 rfl (ent_nil _))

def updN {α : Type} (f : Nat → α) (p : Nat) (v : α) : Nat → α := fun x => if x = p then v else f x
theorem updN_same {α : Type} (f : Nat → α) (p : Nat) (v : α) : updN f p v p = v := if_pos rfl
theorem updN_ne {α : Type} {f : Nat → α} {p x : Nat} {v : α} (h : x ≠ p) : updN f p v x = f x := if_neg h
def FF (s : MS) (g : Int) (v : Nat) : List Off := (rowR s v).filter (notO (thru g))
def RS (s : MS) (g : Int) (j k v : Nat) : List Off := if v < j then FF s g v else if v = j then ((rowR s j).take k).filter (notO (thru g)) else []
def goneT (s : MS) (g : Int) : Nat → List Int
  | 0 => []
  | n + 1 => goneT s g n ++ goneO (rowR s n) (thru g)
abbrev qP (ra : Nat → Option Addr) (rc : Nat → Nat) (W : Nat → List Off) (v : Nat) : HP := slc 31 3 (ra v) (W v).length (rc v) (ofsC (W v))
def hdr (ra : Nat → Option Addr) (rc : Nat → Nat) (W : Nat → List Off) (v : Nat) : Value := .slice (ra v) (W v).length (rc v)
theorem RS_next (s : MS) (g : Int) (j : Nat) : RS s g j (rowR s j).length = RS s g (j + 1) 0 := by
  funext v
  rw [RS, RS]
  by_cases h : v < j
  · rw [if_pos h, if_pos (by omega)]
  · rw [if_neg h]
    by_cases e : v = j
    · rw [if_pos e, if_pos (by omega), List.take_length, e]; rfl
    · rw [if_neg e, if_neg (by omega), List.take_zero]; simp
theorem RS_zero (s : MS) (g : Int) : RS s g 0 0 = fun _ => [] := by
  funext v
  rw [RS, if_neg (by omega), List.take_zero]; simp
theorem RS_same {s : MS} {g : Int} {j k : Nat} {o : Off} (ho : (rowR s j)[k]? = some o) (hg : o.gt = g) : RS s g j (k + 1) = RS s g j k := by
  funext v
  have hn : notO (thru g) o = false := by simp [notO, thru, hg]
  rw [RS, RS, fil_snoc ho, hn]
  simp
theorem RS_at {s : MS} {g : Int} {j k : Nat} {o : Off} (ho : (rowR s j)[k]? = some o) (hg : o.gt ≠ g) : RS s g j (k + 1) j = RS s g j k j ++ [o] ∧ ∀ v, v ≠ j → RS s g j (k + 1) v = RS s g j k v := by
  refine ⟨?_, fun v hv => ?_⟩
  · rw [RS, RS, if_neg (by omega), if_pos rfl, if_neg (by omega), if_pos rfl, fil_snoc ho, if_pos (by simp [notO, thru, hg])]
  · rw [RS, RS, if_neg hv, if_neg hv]
theorem RS_all (s : MS) (g : Int) {v : Nat} (h : v < 8) : RS s g 8 0 v = FF s g v := if_pos h
theorem hdr_set {ra : Nat → Option Addr} {rc : Nat → Nat} {W W' : Nat → List Off} {n j : Nat} {a : Option Addr} {c : Nat} {o : Off} (hj : j < n) (h1 : W' j = W j ++ [o]) (h2 : ∀ v, v ≠ j → W' v = W v) :
    splice j [.slice a ((W j).length + 1) c] (fl n (hdr ra rc W)) = fl n (hdr (updN ra j a) (updN rc j c) W') := by
  refine fl_set hj ?_ fun u hu => ?_
  · rw [hdr, updN_same, updN_same, h1, List.length_append]; rfl
  · rw [hdr, hdr, updN_ne hu, updN_ne hu, h2 u hu]
theorem range_ne {n j : Nat} {M : List Nat} (hM : (List.range n).Perm (j :: M)) : ∀ v ∈ M, v ≠ j := fun v hv e => (List.nodup_cons.1 (hM.nodup_iff.1 List.nodup_range)).1 (e ▸ hv)
theorem goneT_snoc {s : MS} {g : Int} (j : Nat) : goneT s g j ++ goneO ((rowR s j).take (rowR s j).length) (thru g) = goneT s g (j + 1) := by rw [List.take_length]; rfl
theorem goneT_eq (s : MS) (g : Int) : ∀ n : Nat, goneT s g n = ((List.range n).map Int.ofNat).flatMap fun x => goneO (rowR s x) (thru g)
  | 0 => rfl
  | n + 1 => by rw [goneT, goneT_eq s g n, List.range_succ, List.map_append, List.flatMap_append]; simp
theorem flat_filter {p : Int → Bool} {f : Int → List Int} : ∀ l : List Int, (l.filter p).flatMap f = l.flatMap fun x => if p x = true then f x else []
  | [] => rfl
  | a :: l => by
    by_cases h : p a = true
    · rw [List.filter_cons_of_pos h, List.flatMap_cons, List.flatMap_cons, if_pos h, flat_filter l]
    · rw [List.filter_cons_of_neg h, List.flatMap_cons, if_neg h, List.nil_append, flat_filter l]
theorem sort8 {s : MS} (h : P8 s) : sortI s.ids = ((List.range 8).map Int.ofNat).filter fun x => decide (x ∈ s.ids) := by
  have hn : (((List.range 8).map Int.ofNat).filter fun x => decide (x ∈ s.ids)).Nodup := List.Nodup.sublist List.filter_sublist (by decide)
  refine List.Perm.eq_of_pairwise (le := fun a c => a ≤ c) (fun a c _ _ h1 h2 => by omega) (sortI_sorted _) (List.Pairwise.sublist List.filter_sublist (by decide)) ((List.perm_ext_iff_of_nodup ((sortI_perm _).nodup_iff.2 h.wm.nd) hn).2 fun x => ?_)
  rw [sortI_mem, List.mem_filter]
  constructor
  · intro hx
    have := h.rg x hx
    exact ⟨List.mem_map.2 ⟨x.toNat, List.mem_range.2 (by omega), by show (x.toNat : Int) = x; omega⟩, by simpa using hx⟩
  · rintro ⟨_, hx⟩; simpa using hx
theorem close_list {s : MS} (h : P8 s) (g : Int) : (closeS s g).2 = goneT s g 8 := by
  show goneC s g (sortI s.ids) = _
  rw [sort8 h, goneC, flat_filter, goneT_eq]
  congr 1
  funext x
  by_cases hx : x ∈ s.ids
  · rw [if_pos (by simpa using hx), rowR, if_pos hx]
  · rw [if_neg (by simpa using hx), rowR, if_neg hx]; rfl
theorem close_row (s : MS) (g : Int) (v : Nat) : rowR (closeS s g).1 v = FF s g v := by
  rw [FF, rowR, rowR]
  by_cases hv : (v : Int) ∈ s.ids
  · rw [if_pos hv, if_pos (show (v : Int) ∈ (closeS s g).1.ids from hv)]
    show (if (v : Int) ∈ sortI s.ids then _ else _) = _
    rw [if_pos (sortI_mem.2 hv)]
  · rw [if_neg hv, if_neg (show (v : Int) ∉ (closeS s g).1.ids from hv)]; rfl
theorem close_free {s : MS} (h : P8 s) {g x : Int} (hx : x ∈ goneT s g 8) : stR (closeS s g).1 x = 0 ∧ pnR (closeS s g).1 x = -1 := by
  rw [← close_list h] at hx
  have hx : x ∈ goneC s g (sortI s.ids) := hx
  have h1 := (gone_in h.wm hx).1
  have h1' : x ∈ (closeS s g).1.ids := h1
  rw [stR, if_pos h1', pnR, if_pos h1']
  exact ⟨if_pos hx, if_pos hx⟩
theorem close_none {s : MS} (g : Int) : (closeS (closeS s g).1 g).2 = [] := by
  rw [List.eq_nil_iff_forall_not_mem]
  intro x hx
  have hx : x ∈ goneC (closeS s g).1 g (sortI s.ids) := hx
  obtain ⟨y, hy, o, ho, h1, _⟩ := goneC_mem.1 hx
  have ho : o ∈ (if y ∈ sortI s.ids then (s.row y).filter (notO (thru g)) else s.row y) := ho
  rw [if_pos hy] at ho
  have := (List.mem_filter.1 ho).2
  simp [notO, thru, h1] at this
theorem goneT_len {s : MS} (h : ∀ x : Int, (rowR s x).length ≤ 8) (g : Int) : ∀ n : Nat, (goneT s g n).length ≤ 8 * n
  | 0 => Nat.zero_le _
  | n + 1 => by
    have h1 := goneT_len h g n
    have h2 := gone_len (rowR s n) (thru g)
    have h3 := h n
    rw [goneT, List.length_append]; omega

set_option maxRecDepth 4000 in
theorem offers_ok (a1 : Option Addr) (c1 : Nat) (a2 : Option Addr) (c2 : Nat) (xs : List Off) (hl : xs.length ≤ 1000000) : FSpec Try.prog 24 [.slice a1 xs.length c1, .slice a2 xs.length c2] (fun F => (∃ E, RdS F E a1 (ofsC xs)) ∧ ∃ E, RdS F E a2 (ofsC xs)) [] (fun _ : Unit => .bool true) (fun _ => True) (fun _ => []) := by
  refine FSpec.intro (rs := [.tmp 4]) (by kernel_rfl) Try.func24 rfl Try.ntmps24 (by rfl) rfl ?_
  intro F ⟨⟨E1, hF1⟩, ⟨E2, hF2⟩⟩
  change TC _ _ _ _ _ _ _ (sepL [_])
  haveI : RdSI F a1 E1 (ofsC xs) := ⟨hF1⟩
  haveI : RdSI F a2 E2 (ofsC xs) := ⟨hF2⟩
  have hil := ofsC_length xs
  refine TC.seq ?_
  refine TC.region ?_
  refine q rfl rfl (asg (v := .bool _) rfl) ?_
  refine TL.nil (nt ?_)
  refine TC.seq ?_
  refine TC.seq ?_
  refine TC.region ?_
  refine q rfl rfl (mv (v := .slice _ _ _) rfl) ?_
  refine q rfl rfl (len 31 3 rfl rfl) ?_
  refine q rfl rfl (mv (v := .slice _ _ _) rfl) ?_
  refine q rfl rfl (len 31 3 rfl rfl) ?_
  refine q rfl rfl (neI rfl rfl) ?_
  refine TL.nil (nt ?_)
  refine TC.condD rfl (fun hc1 => absurd hc1 (by simp)) (fun hc1 => ?_)
  refine TC.skip (nt ?_)
  refine TC.seq ?_
  refine TC.seq ?_
  refine TC.region ?_
  refine q rfl rfl (asg (v := .int _ _) rfl) ?_
  refine TL.nil (nt ?_)
  refine TC.block ?_
  refine TC.loop (ι := Nat) (fun i => i ≤ xs.length) (fun i => [(0, .slice a1 xs.length c1), (1, .slice a2 xs.length c2), (5, .int .i64 ((i : Nat) : Int))]) (fun i => sepL [F]) (fun i => xs.length - i) 0 (Nat.zero_le _) ⟨rfl, rfl, rfl, trivial⟩ (ent_take 0 rfl (ent_nil _)) ?_
  rintro k hk ρ0
  dsimp only [updL] at hk ⊢
  refine TC.seq ?_
  refine TC.seq ?_
  refine TC.region ?_
  refine q rfl rfl (mv (v := .int _ _) rfl) ?_
  refine q rfl rfl (mv (v := .slice _ _ _) rfl) ?_
  refine q rfl rfl (len 31 3 rfl rfl) ?_
  refine q rfl rfl (lss rfl rfl) ?_
  refine TL.nil (nt ?_)
  first | refine TC.condD rfl (fun hlt => ?_) (fun hlt => ?_) | refine TC.cond rfl (fun hlt => ?_) (fun hlt => ?_)
  · have hlt2 : k < xs.length := by omega
    obtain ⟨o, ho⟩ : ∃ o, xs[k]? = some o := ⟨xs[k], List.getElem?_eq_getElem hlt2⟩
    have hpos : 0 < (ofsC xs).length := by omega
    refine TC.skip (nt ?_)
    refine TC.seq ?_
    refine TC.block ?_
    refine TC.seq ?_
    refine TC.draw _ [] [(0, false), (1, false), (2, false), (3, false), (4, false), (5, false), (6, false), (7, false), (8, false)] (by kernel_rfl) (by kernel_rfl) (ent.refl _) ?_
    refine dq rfl rfl rfl (mv (v := .slice _ _ _) rfl) ?_
    refine dq rfl rfl rfl (mv (v := .int _ _) rfl) ?_
    first | refine dq rfl rfl rfl (ixS 31 3 rfl rfl rfl (by omega) (by first | assumption | (simp [ints_length] <;> omega))) ?_ | refine dq rfl rfl rfl (ixJ 31 3 rfl rfl rfl (by omega) (by omega) (by first | assumption | (simp [ints_length] <;> omega))) ?_ | refine dq rfl rfl rfl (ix 31 3 rfl rfl rfl (by omega) (by omega) rfl) ?_
    first | refine dq rfl rfl rfl (ldN (vs := [_, _, _]) 3 rfl rfl rfl rfl) ?_ | refine dq rfl rfl rfl (ldSN (vs := [_, _, _]) 3 rfl rfl (flat_get_rec ofC_sz ho) rfl (by decide)) ?_ | refine dq rfl rfl rfl (ldSN (vs := [_, _, _]) 3 rfl rfl rfl rfl (by decide)) ?_
    refine dq rfl rfl rfl (mv (v := .slice _ _ _) rfl) ?_
    refine dq rfl rfl rfl (mv (v := .int _ _) rfl) ?_
    first | refine dq rfl rfl rfl (ixS 31 3 rfl rfl rfl (by omega) (by first | assumption | (simp [ints_length] <;> omega))) ?_ | refine dq rfl rfl rfl (ixJ 31 3 rfl rfl rfl (by omega) (by omega) (by first | assumption | (simp [ints_length] <;> omega))) ?_ | refine dq rfl rfl rfl (ix 31 3 rfl rfl rfl (by omega) (by omega) rfl) ?_
    first | refine dq rfl rfl rfl (ldN (vs := [_, _, _]) 3 rfl rfl rfl rfl) ?_ | refine dq rfl rfl rfl (ldSN (vs := [_, _, _]) 3 rfl rfl (flat_get_rec ofC_sz ho) rfl (by decide)) ?_ | refine dq rfl rfl rfl (ldSN (vs := [_, _, _]) 3 rfl rfl rfl rfl (by decide)) ?_
    refine dq rfl rfl rfl (neO (by kernel_rfl) rfl rfl) ?_
    refine TD.nil (nt ?_)
    refine TC.condD rfl (fun hc2 => absurd hc2 (by simp)) (fun hc2 => ?_)
    refine TC.skip (nb (nt ?_))
    refine TC.region ?_
    refine q rfl rfl (mv (v := .int _ _) rfl) ?_
    first | refine q rfl rfl (addI rfl rfl (by omega) (by omega)) ?_ | refine q rfl rfl (add rfl rfl rfl) ?_
    refine q rfl rfl (asg (v := .int _ _) rfl) ?_
    refine TL.nil (nt ?_)
    exact ⟨rfl, (k + 1), (by omega), (by omega), ⟨rfl, rfl, rfl, trivial⟩, (ent_take 0 rfl (ent_nil _))⟩
  · refine TC.exit (et (et (eb (nt ?_))))
    refine TC.seq ?_
    refine TC.region ?_
    refine q rfl rfl (asg (v := .bool _) rfl) ?_
    refine TL.nil (nt ?_)
    refine TC.ret ?_
    exact Ret.i () [_] ⟨rfl, trivial⟩ rfl trivial (ent_take 0 rfl (ent_nil _))

set_option maxRecDepth 4000 in
set_option maxHeartbeats 2000000 in
theorem closes_ok (ad : Option Addr) (l : List MAct) (cap : Nat) (gt : Int) : FSpec Try.prog 7 [.slice ad l.length cap, .int .i64 gt] (fun F => ∃ E, RdS F E ad (mactsC l)) [] (fun _ : Unit => .bool true) (fun _ => True) (fun _ => []) := by
  refine FSpec.intro (rs := [.tmp 4]) (by kernel_rfl) Try.func7 rfl Try.ntmps7 (by rfl) rfl ?_
  intro F ⟨E, hF⟩
  change TC _ _ _ _ _ _ _ (sepL [_])
  haveI : RdSI F ad E (mactsC l) := ⟨hF⟩
  refine TC.seq ?_
  refine TC.region ?_
  refine q rfl rfl (asg (v := .bool _) rfl) ?_
  refine TL.nil (nt ?_)
  refine TC.seq ?_
  refine TC.seq ?_
  refine TC.region ?_
  refine e rfl ?_
  refine cl alive_ok rfl (picked_nil _) trivial ?_
  intro _ _
  change TL _ _ _ _ _ _ _ _ (sepL [_])
  first | refine q rfl rfl (notD rfl) ?_ | refine q rfl rfl (notB rfl) ?_
  refine TL.nil (nt ?_)
  refine TC.condF rfl ?_
  refine TC.skip (nt ?_)
  refine TC.seq ?_
  refine TC.seq ?_
  refine TC.region ?_
  refine q rfl rfl (mv (v := .slice _ _ _) rfl) ?_
  refine q rfl rfl (len 63 5 rfl rfl) ?_
  refine q rfl rfl (gtr rfl rfl) ?_
  refine TL.nil (nt ?_)
  first | refine TC.condD rfl (fun hbig => ?_) (fun hbig => ?_) | refine TC.cond rfl (fun hbig => ?_) (fun hbig => ?_)
  · refine TC.seq ?_
    refine TC.region ?_
    refine q rfl rfl (asg (v := .bool _) rfl) ?_
    refine TL.nil (nt ?_)
    refine TC.ret (rt ?_)
    exact Ret.i () [_] ⟨rfl, trivial⟩ rfl trivial (ent_take 0 rfl (ent_nil _))
  · refine TC.skip (nt ?_)
    refine TC.seq ?_
    refine TC.region ?_
    refine e rfl ?_
    refine cl (mnew_ok (fun _ => 0)) rfl (picked_nil _) trivial ?_
    intro a _
    change TL _ _ _ _ _ _ _ _ (sepL [_, _])
    refine q rfl rfl (asg (v := .pointer _) rfl) ?_
    refine TL.nil (nt ?_)
    refine TC.seq ?_
    refine TC.seq ?_
    refine TC.region ?_
    refine q rfl rfl (mv (v := .pointer _) rfl) ?_
    refine e rfl ?_
    refine bs (E := 3) (sz := 1) (cs := ints [0, 1, 2, 3, 4, 5, 6, 7]) (by kernel_rfl) ?_
    intro b1
    refine e rfl ?_
    refine cl (mjoin_ok a (fun _ => 0) s0 (some ⟨b1, 0, none⟩) _ [0, 1, 2, 3, 4, 5, 6, 7] (by decide) (by decide)) rfl PkL.p ⟨_, RdSI.rd (ad := some ⟨b1, 0, none⟩)⟩ ?_
    intro A0 _
    change TL _ _ _ _ _ _ _ _ (sepL [_, _, _])
    rw [show ((joinL s0 [0, 1, 2, 3, 4, 5, 6, 7]).ids.length : Int) - (s0.ids.length : Int) = 8 from by kernel_rfl]
    refine q rfl rfl (neI rfl rfl) ?_
    refine TL.nil (nt ?_)
    refine TC.condD rfl (fun hc3 => absurd hc3 (by decide)) (fun hc3 => ?_)
    refine TC.skip (nt ?_)
    refine TC.seq ?_
    refine TC.region ?_
    refine q rfl rfl (mv (v := .pointer _) rfl) ?_
    refine q rfl rfl (mv (v := .slice _ _ _) rfl) ?_
    refine e rfl ?_
    refine cl (play_ok a A0 _ P8.start ad l cap (by omega)) rfl PkL.p ⟨_, RdSI.rd (ad := ad)⟩ ?_
    intro ys hP
    change TL _ _ _ _ _ _ _ _ (sepL [_, _, _])
    obtain ⟨A, s⟩ := ys
    dsimp only at hP ⊢
    have hsl := hP.len
    have hW := hP.wm
    refine TL.nil (nt ?_)
    refine TC.seq ?_
    refine TC.region ?_
    refine q rfl rfl (asg (v := .slice _ _ _) rfl) ?_
    refine TL.nil (nt ?_)
    refine TC.seq ?_
    have hr8 : ∀ x : Int, (rowR s x).length ≤ 8 := fun x => Nat.le_trans (rowRlen hW x) hsl
    have hgl := goneT_len hr8 gt
    refine TC.region ?_
    refine e rfl ?_
    refine al (l := [.slice _ _ _, .slice _ _ _, .slice _ _ _, .slice _ _ _, .slice _ _ _, .slice _ _ _, .slice _ _ _, .slice _ _ _]) rfl rfl ?_
    intro b2
    refine TL.nil (nt ?_)
    refine TC.seq ?_
    refine TC.seq ?_
    refine TC.region ?_
    refine q rfl rfl (asg (v := .int _ _) rfl) ?_
    refine TL.nil (nt ?_)
    refine TC.block ?_
    have hent0 : ∀ hs : List HP, ent (sepL hs) (sepL (bigS (qP (fun _ => none) (fun _ => 0) (RS s gt 0 0)) (List.range 8) :: hs)) := fun hs => by
      rw [RS_zero]
      have key : ∀ L : List Nat, ent (sepL hs) (sepL (bigS (qP (fun _ => none) (fun _ => 0) (fun _ => [])) L :: hs)) := fun L => by
        induction L with
        | nil => exact bigS_nil hs
        | cons a L ih => exact ih.trans ((slc_nil 31 3 _).trans (ent_closeB 0 0 a rfl rfl rfl (fun _ _ => rfl) (List.Perm.refl _) (ent.refl _)))
      exact key _
    refine TC.loop (ι := Nat × (Nat → Option Addr) × (Nat → Nat) × (Option Addr × Nat)) (fun u => u.1 ≤ 8) (fun u => [(1, .int .i64 gt), (5, .pointer (some ⟨a, 0, none⟩)), (7, .pointer (some ⟨b2, 0, none⟩)), (6, .slice u.2.2.2.1 (goneT s gt u.1).length u.2.2.2.2), (8, .int .i64 ((u.1 : Nat) : Int))]) (fun u => sepL [pts b2 49 (fl 8 (hdr u.2.1 u.2.2.1 (RS s gt u.1 0))), bigS (qP u.2.1 u.2.2.1 (RS s gt u.1 0)) (List.range 8), slc 3 1 u.2.2.2.1 (goneT s gt u.1).length u.2.2.2.2 (ints (goneT s gt u.1)), isMa a A s, F]) (fun u => 8 - u.1) ⟨0, fun _ => none, fun _ => 0, (none, 0)⟩ (Nat.zero_le _) ⟨rfl, rfl, rfl, rfl, rfl, trivial⟩ ((hent0 _).trans ((slc_nil 3 1 _).trans (ent_takeE 2 rfl (by dsimp only; rw [RS_zero]; kernel_rfl) (by repeat (first | exact ent_nil _ | refine ent_take 0 rfl ?_ | refine ent_take 1 rfl ?_ | refine ent_take 2 rfl ?_ | refine ent_take 3 rfl ?_ | refine ent_take 4 rfl ?_ | refine ent_take 5 rfl ?_ | refine ent_take 6 rfl ?_ | refine ent_take 7 rfl ?_ | refine ent_take 8 rfl ?_ | refine ent_take 9 rfl ?_ | refine ent_take 10 rfl ?_ | refine ent_take 11 rfl ?_ | refine ent_take 12 rfl ?_))))) ?_
    rintro ⟨j, ra, rc, ⟨oa, oc⟩⟩ hj ρ1
    dsimp only [updL] at hj ⊢
    refine TC.seq ?_
    refine TC.seq ?_
    refine TC.region ?_
    refine q rfl rfl (mv (v := .int _ _) rfl) ?_
    refine q rfl rfl (lss rfl rfl) ?_
    refine TL.nil (nt ?_)
    first | refine TC.condD rfl (fun hlt => ?_) (fun hlt => ?_) | refine TC.cond rfl (fun hlt => ?_) (fun hlt => ?_)
    · have hj8 : j < 8 := by omega
      have hrl := hr8 (j : Int)
      have hgj := hgl j
      obtain ⟨M, hM⟩ := perm_mem (List.mem_range.2 hj8)
      have hne := range_ne hM
      refine TC.skip (nt ?_)
      refine TC.seq ?_
      refine TC.block ?_
      refine TC.seq ?_
      refine TC.region ?_
      refine q rfl rfl (mv (v := .pointer _) rfl) ?_
      refine q rfl rfl (mv (v := .int _ _) rfl) ?_
      refine e rfl ?_
      refine cl (mrow_ok a A s j (by omega)) rfl PkL.p trivial ?_
      intro yr _
      change TL _ _ _ _ _ _ _ _ (sepL [_, _, _, _, _, _])
      refine q rfl rfl (asg (v := .slice _ _ _) rfl) ?_
      refine TL.nil (nt ?_)
      refine TC.seq ?_
      refine TC.region ?_
      refine q rfl rfl (asg (v := .int _ _) rfl) ?_
      refine TL.nil (nt ?_)
      refine TC.block ?_
      refine TC.loop (ι := Nat × (Nat → Option Addr) × (Nat → Nat) × (Option Addr × Nat)) (fun u => u.1 ≤ (rowR s j).length) (fun u => [(1, .int .i64 gt), (5, .pointer (some ⟨a, 0, none⟩)), (7, .pointer (some ⟨b2, 0, none⟩)), (6, .slice u.2.2.2.1 (goneT s gt j ++ goneO ((rowR s j).take u.1) (thru gt)).length u.2.2.2.2), (8, .int .i64 (j : Int)), (9, .slice yr.1 (rowR s j).length yr.2), (10, .int .i64 ((u.1 : Nat) : Int))]) (fun u => sepL [pts b2 49 (fl 8 (hdr u.2.1 u.2.2.1 (RS s gt j u.1))), bigS (qP u.2.1 u.2.2.1 (RS s gt j u.1)) (List.range 8), slc 3 1 u.2.2.2.1 (goneT s gt j ++ goneO ((rowR s j).take u.1) (thru gt)).length u.2.2.2.2 (ints (goneT s gt j ++ goneO ((rowR s j).take u.1) (thru gt))), slc 31 3 yr.1 (rowR s j).length yr.2 (ofsC (rowR s j)), isMa a A s, F]) (fun u => (rowR s j).length - u.1) ⟨0, ra, rc, (oa, oc)⟩ (Nat.zero_le _) ⟨rfl, rfl, rfl, congrArg (fun n => Value.slice oa n oc) (by dsimp only; rw [List.take_zero, show goneO [] (thru gt) = [] from rfl, List.append_nil]), rfl, rfl, rfl, trivial⟩ (ent_take 2 rfl (ent_take 2 rfl (ent_takeE 2 rfl (by dsimp only; rw [List.take_zero, show goneO [] (thru gt) = [] from rfl, List.append_nil]) (by repeat (first | exact ent_nil _ | refine ent_take 0 rfl ?_ | refine ent_take 1 rfl ?_ | refine ent_take 2 rfl ?_ | refine ent_take 3 rfl ?_ | refine ent_take 4 rfl ?_ | refine ent_take 5 rfl ?_ | refine ent_take 6 rfl ?_ | refine ent_take 7 rfl ?_ | refine ent_take 8 rfl ?_ | refine ent_take 9 rfl ?_ | refine ent_take 10 rfl ?_ | refine ent_take 11 rfl ?_ | refine ent_take 12 rfl ?_))))) ?_
      rintro ⟨k, ra, rc, ⟨oa, oc⟩⟩ hk ρ2
      dsimp only [updL] at hk ⊢
      refine TC.seq ?_
      refine TC.seq ?_
      refine TC.region ?_
      refine q rfl rfl (mv (v := .int _ _) rfl) ?_
      refine q rfl rfl (mv (v := .slice _ _ _) rfl) ?_
      refine q rfl rfl (len 31 3 rfl rfl) ?_
      refine q rfl rfl (lss rfl rfl) ?_
      refine TL.nil (nt ?_)
      first | refine TC.condD rfl (fun hlk => ?_) (fun hlk => ?_) | refine TC.cond rfl (fun hlk => ?_) (fun hlk => ?_)
      · have hk2 : k < (rowR s j).length := by omega
        obtain ⟨o, ho⟩ : ∃ o, (rowR s j)[k]? = some o := ⟨_, List.getElem?_eq_getElem hk2⟩
        have hpos : 0 < (ofsC (rowR s j)).length := by rw [ofsC_length]; omega
        have hgs := gone_snoc (pr := thru gt) ho
        have hgk := gone_len ((rowR s j).take k) (thru gt)
        have htl : ((rowR s j).take k).length ≤ k := by rw [List.length_take]; omega
        have hTl : (goneT s gt j ++ goneO ((rowR s j).take k) (thru gt)).length ≤ 8 * j + 8 := by rw [List.length_append]; omega
        have hTi := ints_length (goneT s gt j ++ goneO ((rowR s j).take k) (thru gt))
        refine TC.skip (nt ?_)
        refine TC.seq ?_
        refine TC.block ?_
        refine TC.seq ?_
        refine TC.region ?_
        refine q rfl rfl (mv (v := .slice _ _ _) rfl) ?_
        refine q rfl rfl (mv (v := .int _ _) rfl) ?_
        first | refine q rfl rfl (ixS 31 3 rfl rfl rfl (by omega) (by first | assumption | (simp [ints_length] <;> omega))) ?_ | refine q rfl rfl (ixJ 31 3 rfl rfl rfl (by omega) (by omega) (by first | assumption | (simp [ints_length] <;> omega))) ?_ | refine q rfl rfl (ix 31 3 rfl rfl rfl (by omega) (by omega) rfl) ?_
        first | refine q rfl rfl (fa 1 rfl rfl) ?_ | refine q rfl rfl (faS 1 rfl rfl (by first | assumption | (simp [ints_length] <;> omega))) ?_
        first | refine q rfl rfl (ld rfl rfl rfl) ?_ | refine q rfl rfl (ldS rfl rfl (flat_ld ofC_sz ho 1 (by omega) rfl)) ?_ | refine q rfl rfl (ldS rfl rfl rfl) ?_
        refine q rfl rfl (mv (v := .int _ _) rfl) ?_
        refine q rfl rfl (eqI rfl rfl) ?_
        refine TL.nil (nt ?_)
        first | refine TC.condD rfl (fun hg => ?_) (fun hg => ?_) | refine TC.cond rfl (fun hg => ?_) (fun hg => ?_)
        · rw [if_pos (by simpa [thru] using hg)] at hgs
          have hRS := RS_same ho hg
          refine TC.region ?_
          refine q rfl rfl (mv (v := .slice _ _ _) rfl) ?_
          refine q rfl rfl (mv (v := .slice _ _ _) rfl) ?_
          refine q rfl rfl (mv (v := .int _ _) rfl) ?_
          first | refine q rfl rfl (ixS 31 3 rfl rfl rfl (by omega) (by first | assumption | (simp [ints_length] <;> omega))) ?_ | refine q rfl rfl (ixJ 31 3 rfl rfl rfl (by omega) (by omega) (by first | assumption | (simp [ints_length] <;> omega))) ?_ | refine q rfl rfl (ix 31 3 rfl rfl rfl (by omega) (by omega) rfl) ?_
          first | refine q rfl rfl (fa 0 rfl rfl) ?_ | refine q rfl rfl (faS 0 rfl rfl (by first | assumption | (simp [ints_length] <;> omega))) ?_
          first | refine q rfl rfl (ld rfl rfl rfl) ?_ | refine q rfl rfl (ldS rfl rfl (flat_ld ofC_sz ho 0 (by omega) rfl)) ?_ | refine q rfl rfl (ldS rfl rfl rfl) ?_
          refine e rfl ?_
          refine bs (cs := [.int _ _]) rfl ?_
          intro b3
          refine e rfl ?_
          refine ap 8 rfl rfl rfl rfl rfl (Nat.le_of_ble_eq_true rfl) (show _ = ints [o.fr] from rfl) rfl (by omega) (by simp only [maxLen]; omega) ?_
          intro ad1 cap1
          refine q rfl rfl (asg (v := .slice _ _ _) rfl) ?_
          refine TL.nil (nb (nt ?_))
          refine TC.region ?_
          refine q rfl rfl (mv (v := .int _ _) rfl) ?_
          first | refine q rfl rfl (addI rfl rfl (by omega) (by omega)) ?_ | refine q rfl rfl (add rfl rfl rfl) ?_
          refine q rfl rfl (asg (v := .int _ _) rfl) ?_
          refine TL.nil (nt ?_)
          exact ⟨rfl, ⟨k + 1, ra, rc, (ad1, cap1)⟩, (by dsimp only; omega), (by dsimp only; omega), ⟨rfl, rfl, rfl, congrArg (fun n => Value.slice _ n _) (by dsimp only; rw [hgs, ← List.append_assoc, List.length_append (bs := [o.fr])]; rfl), rfl, rfl, rfl, trivial⟩, (by dsimp only; rw [hRS]; exact (ent_take 2 rfl (ent_take 2 rfl (ent_takeE 0 rfl (by rw [hgs, ← List.append_assoc, List.length_append (bs := [o.fr]), ints_app1]; rfl) (by repeat (first | exact ent_nil _ | refine ent_take 0 rfl ?_ | refine ent_take 1 rfl ?_ | refine ent_take 2 rfl ?_ | refine ent_take 3 rfl ?_ | refine ent_take 4 rfl ?_ | refine ent_take 5 rfl ?_ | refine ent_take 6 rfl ?_ | refine ent_take 7 rfl ?_ | refine ent_take 8 rfl ?_ | refine ent_take 9 rfl ?_ | refine ent_take 10 rfl ?_ | refine ent_take 11 rfl ?_ | refine ent_take 12 rfl ?_))))))⟩
        · rw [if_neg (by simpa [thru] using hg), List.append_nil] at hgs
          obtain ⟨hR1, hR2⟩ := RS_at ho hg
          have hRl : (RS s gt j k j).length ≤ k := by
            rw [RS, if_neg (by omega), if_pos rfl]
            exact Nat.le_trans (List.length_filter_le _ _) htl
          have hRi := ofsC_length (RS s gt j k j)
          have hh : (fl 8 (hdr ra rc (RS s gt j k)))[j]? = some (.slice (ra j) (RS s gt j k j).length (rc j)) := fl_get _ hj8
          refine TC.weak (ent_openB 1 rfl hM) ?_
          refine TC.draw _ [11] [(0, false), (1, false), (2, false), (3, false), (4, false), (5, false), (6, false), (7, false), (8, true), (9, true), (10, false), (11, true)] (by kernel_rfl) (by kernel_rfl) (ent_take 2 rfl (ent_take 3 rfl (ent_nil _))) ?_
          refine dq rfl rfl rfl (mv (v := .int _ _) rfl) ?_
          refine dq rfl rfl rfl (mv (v := .int _ _) rfl) ?_
          refine dq rfl rfl rfl (ixAl 8 36 1 rfl rfl rfl (by omega) (by omega)) ?_
          first | refine dq rfl rfl rfl (ld rfl rfl rfl) ?_ | refine dq rfl rfl rfl (ld rfl rfl (by rw [Nat.zero_add, Nat.mul_one, Int.toNat_natCast]; exact hh)) ?_ | refine dq rfl rfl rfl (ldS rfl rfl (flat_get_rec ofC_sz ho)) ?_ | refine dq rfl rfl rfl (ldS rfl rfl rfl) ?_
          refine dq rfl rfl rfl (mv (v := .slice _ _ _) rfl) ?_
          refine dq rfl rfl rfl (mv (v := .int _ _) rfl) ?_
          first | refine dq rfl rfl rfl (ixS 31 3 rfl rfl rfl (by omega) (by first | assumption | (simp [ints_length] <;> omega))) ?_ | refine dq rfl rfl rfl (ixJ 31 3 rfl rfl rfl (by omega) (by omega) (by first | assumption | (simp [ints_length] <;> omega))) ?_ | refine dq rfl rfl rfl (ix 31 3 rfl rfl rfl (by omega) (by omega) rfl) ?_
          first | refine dq rfl rfl rfl (ldN (vs := [_, _, _]) 3 rfl rfl rfl rfl) ?_ | refine dq rfl rfl rfl (ldSN (vs := [_, _, _]) 3 rfl rfl (flat_get_rec ofC_sz ho) rfl (by decide)) ?_ | refine dq rfl rfl rfl (ldSN (vs := [_, _, _]) 3 rfl rfl rfl rfl (by decide)) ?_
          refine de rfl rfl ?_
          refine bs (cs := [.int _ _, .int _ _, .bool _]) rfl ?_
          intro b4
          refine ⟨(by repeat (first | exact ent_nil _ | refine ent_take 0 rfl ?_ | refine ent_take 1 rfl ?_ | refine ent_take 2 rfl ?_ | refine ent_take 3 rfl ?_ | refine ent_take 4 rfl ?_ | refine ent_take 5 rfl ?_ | refine ent_take 6 rfl ?_ | refine ent_take 7 rfl ?_ | refine ent_take 8 rfl ?_ | refine ent_take 9 rfl ?_ | refine ent_take 10 rfl ?_ | refine ent_take 11 rfl ?_ | refine ent_take 12 rfl ?_)), ?_⟩
          refine de rfl rfl ?_
          refine ap 24 rfl rfl rfl rfl rfl (Nat.le_of_ble_eq_true rfl) (show _ = ofsC [o] from rfl) rfl (by omega) (by simp only [maxLen]; omega) ?_
          intro ad2 cap2
          refine ⟨(by repeat (first | exact ent_nil _ | refine ent_take 0 rfl ?_ | refine ent_take 1 rfl ?_ | refine ent_take 2 rfl ?_ | refine ent_take 3 rfl ?_ | refine ent_take 4 rfl ?_ | refine ent_take 5 rfl ?_ | refine ent_take 6 rfl ?_ | refine ent_take 7 rfl ?_ | refine ent_take 8 rfl ?_ | refine ent_take 9 rfl ?_ | refine ent_take 10 rfl ?_ | refine ent_take 11 rfl ?_ | refine ent_take 12 rfl ?_)), ?_⟩
          refine dq rfl rfl rfl (ixAl 8 36 1 rfl rfl rfl (by omega) (by omega)) ?_
          refine dl0 rfl rfl rfl ?_
          first | refine st (v := .slice _ _ _) (vs := [_]) 1 rfl rfl rfl rfl rfl rfl (Nat.le_of_ble_eq_true rfl) rfl ?_ | refine st (v := .slice _ _ _) (vs := [_]) 1 rfl rfl rfl rfl rfl rfl (by rw [fl_length]; simp <;> omega) ((congrArg (fun n => splice n _ (fl 8 (hdr ra rc (RS s gt j k)))) (by rw [Nat.zero_add, Nat.mul_one, Int.toNat_natCast])).trans (hdr_set hj8 hR1 hR2)) ?_
          refine TD.nil (nb (nt ?_))
          refine TC.region ?_
          refine q rfl rfl (mv (v := .int _ _) rfl) ?_
          first | refine q rfl rfl (addI rfl rfl (by omega) (by omega)) ?_ | refine q rfl rfl (add rfl rfl rfl) ?_
          refine q rfl rfl (asg (v := .int _ _) rfl) ?_
          refine TL.nil (nt ?_)
          exact ⟨rfl, ⟨k + 1, updN ra j ad2, updN rc j cap2, (oa, oc)⟩, (by dsimp only; omega), (by dsimp only; omega), ⟨rfl, rfl, rfl, congrArg (fun n => Value.slice _ n _) (by dsimp only; rw [hgs]), rfl, rfl, rfl, trivial⟩, (by dsimp only; exact (ent_take 0 rfl (ent_closeB 0 1 j rfl rfl (by dsimp only [qP]; rw [updN_same, updN_same, hR1, List.length_append, List.length_singleton, ofs_app]) (fun v hv => by have h := hne v hv; dsimp only [qP]; rw [updN_ne h, updN_ne h, hR2 v h]) hM.symm (ent_takeE 1 rfl (by rw [hgs]) (by repeat (first | exact ent_nil _ | refine ent_take 0 rfl ?_ | refine ent_take 1 rfl ?_ | refine ent_take 2 rfl ?_ | refine ent_take 3 rfl ?_ | refine ent_take 4 rfl ?_ | refine ent_take 5 rfl ?_ | refine ent_take 6 rfl ?_ | refine ent_take 7 rfl ?_ | refine ent_take 8 rfl ?_ | refine ent_take 9 rfl ?_ | refine ent_take 10 rfl ?_ | refine ent_take 11 rfl ?_ | refine ent_take 12 rfl ?_))))))⟩
      · obtain rfl : k = (rowR s j).length := by omega
        rw [RS_next, goneT_snoc]
        refine TC.exit (et (et (eb (nb (nt ?_)))))
        refine TC.region ?_
        refine q rfl rfl (mv (v := .int _ _) rfl) ?_
        first | refine q rfl rfl (addI rfl rfl (by omega) (by omega)) ?_ | refine q rfl rfl (add rfl rfl rfl) ?_
        refine q rfl rfl (asg (v := .int _ _) rfl) ?_
        refine TL.nil (nt ?_)
        exact ⟨rfl, ⟨j + 1, ra, rc, (oa, oc)⟩, (by dsimp only; omega), (by dsimp only; omega), ⟨rfl, rfl, rfl, rfl, rfl, trivial⟩, (by repeat (first | exact ent_nil _ | refine ent_take 0 rfl ?_ | refine ent_take 1 rfl ?_ | refine ent_take 2 rfl ?_ | refine ent_take 3 rfl ?_ | refine ent_take 4 rfl ?_ | refine ent_take 5 rfl ?_ | refine ent_take 6 rfl ?_ | refine ent_take 7 rfl ?_ | refine ent_take 8 rfl ?_ | refine ent_take 9 rfl ?_ | refine ent_take 10 rfl ?_ | refine ent_take 11 rfl ?_ | refine ent_take 12 rfl ?_))⟩
    · obtain rfl : j = 8 := by omega
      have hcl := close_list hP gt
      have hg8 := hgl 8
      refine TC.exit (et (et (eb (nt ?_))))
      refine TC.seq ?_
      refine TC.seq ?_
      refine TC.region ?_
      refine q rfl rfl (mv (v := .pointer _) rfl) ?_
      refine q rfl rfl (mv (v := .int _ _) rfl) ?_
      refine e rfl ?_
      refine cl (mclose_ok a A s hW gt (by omega)) rfl PkL.p trivial ?_
      intro yc _
      change TL _ _ _ _ _ _ _ _ (sepL [_, _, _, _, _, _])
      rw [hcl]
      refine q rfl rfl (mv (v := .slice _ _ _) rfl) ?_
      refine e rfl ?_
      refine cl (same_ok yc.1 _ (goneT s gt 8) oa _ (goneT s gt 8) (by omega)) rfl (picked_nil _) ⟨⟨_, RdSI.rd (ad := yc.1)⟩, ⟨_, RdSI.rd (ad := oa)⟩⟩ ?_
      intro _ _
      change TL _ _ _ _ _ _ _ _ (sepL [_, _, _, _, _, _])
      rw [decide_eq_true rfl]
      first | refine q rfl rfl (notD rfl) ?_ | refine q rfl rfl (notB rfl) ?_
      refine TL.nil (nt ?_)
      refine TC.condF rfl ?_
      refine TC.skip (nt ?_)
      refine TC.seq ?_
      refine TC.seq ?_
      refine TC.region ?_
      refine q rfl rfl (asg (v := .int _ _) rfl) ?_
      refine TL.nil (nt ?_)
      refine TC.block ?_
      have hfr := fun x (hx : x ∈ goneT s gt 8) => close_free hP hx
      have hrow := fun v => close_row s gt v
      have hno := close_none (s := s) gt
      have hWV := hW.close gt
      have hVl : (closeS s gt).1.ids.length ≤ 8 := hsl
      generalize (closeS s gt).1 = V at hfr hrow hno hWV hVl ⊢
      have hGi := ints_length (goneT s gt 8)
      refine TC.loop (ι := Nat) (fun v => v ≤ 8) (fun v => [(1, .int .i64 gt), (5, .pointer (some ⟨a, 0, none⟩)), (6, .slice oa (goneT s gt 8).length oc), (7, .pointer (some ⟨b2, 0, none⟩)), (11, .int .i64 ((v : Nat) : Int))]) (fun v => sepL [pts b2 49 (fl 8 (hdr ra rc (RS s gt 8 0))), bigS (qP ra rc (RS s gt 8 0)) (List.range 8), slc 3 1 oa (goneT s gt 8).length oc (ints (goneT s gt 8)), isMa a A V, F]) (fun v => 8 - v) 0 (Nat.zero_le _) ⟨rfl, rfl, rfl, rfl, rfl, trivial⟩ (by repeat (first | exact ent_nil _ | refine ent_take 0 rfl ?_ | refine ent_take 1 rfl ?_ | refine ent_take 2 rfl ?_ | refine ent_take 3 rfl ?_ | refine ent_take 4 rfl ?_ | refine ent_take 5 rfl ?_ | refine ent_take 6 rfl ?_ | refine ent_take 7 rfl ?_ | refine ent_take 8 rfl ?_ | refine ent_take 9 rfl ?_ | refine ent_take 10 rfl ?_ | refine ent_take 11 rfl ?_ | refine ent_take 12 rfl ?_)) ?_
      rintro v hv ρ3
      dsimp only [updL] at hv ⊢
      refine TC.seq ?_
      refine TC.seq ?_
      refine TC.region ?_
      refine q rfl rfl (mv (v := .int _ _) rfl) ?_
      refine q rfl rfl (lss rfl rfl) ?_
      refine TL.nil (nt ?_)
      first | refine TC.condD rfl (fun hlt => ?_) (fun hlt => ?_) | refine TC.cond rfl (fun hlt => ?_) (fun hlt => ?_)
      · have hv8 : v < 8 := by omega
        have hR := RS_all s gt hv8
        have hrl : (FF s gt v).length ≤ 8 := Nat.le_trans (List.length_filter_le _ _) (hr8 v)
        have hh : (fl 8 (hdr ra rc (RS s gt 8 0)))[v]? = some (.slice (ra v) (FF s gt v).length (rc v)) := by rw [fl_get _ hv8, hdr, hR]
        haveI : RdSI (bigS (qP ra rc (RS s gt 8 0)) (List.range 8)) (ra v) 31 (ofsC (FF s gt v)) := ⟨by rw [← hR]; exact RdS_big (List.mem_range.2 hv8) (RdS_slc _ _ _ _ _ _)⟩
        refine TC.skip (nt ?_)
        refine TC.seq ?_
        refine TC.block ?_
        refine TC.seq ?_
        refine TC.draw _ [] [(0, false), (1, false), (3, false), (4, false), (5, false), (2, true), (6, true), (7, false)] (by kernel_rfl) (by kernel_rfl) (ent_take 0 rfl (ent_nil _)) ?_
        refine dq rfl rfl rfl (mv (v := .pointer _) rfl) ?_
        refine dq rfl rfl rfl (mv (v := .int _ _) rfl) ?_
        refine dq rfl rfl rfl (mv (v := .int _ _) rfl) ?_
        refine dq rfl rfl rfl (ixAl 8 36 1 rfl rfl rfl (by omega) (by omega)) ?_
        first | refine dq rfl rfl rfl (ld rfl rfl rfl) ?_ | refine dq rfl rfl rfl (ld rfl rfl (by rw [Nat.zero_add, Nat.mul_one, Int.toNat_natCast]; exact hh)) ?_ | refine dq rfl rfl rfl (ldS rfl rfl rfl) ?_
        refine de rfl rfl ?_
        refine cl (mrow_ok a A V v (by rw [hrow]; omega)) rfl PkL.p trivial ?_
        intro yr _
        change ent _ _ ∧ TD _ _ _ _ _ _ _ _ _ _ (sepL [_, _, _, _, _, _])
        refine ⟨(by repeat (first | exact ent_nil _ | refine ent_take 0 rfl ?_ | refine ent_take 1 rfl ?_ | refine ent_take 2 rfl ?_ | refine ent_take 3 rfl ?_ | refine ent_take 4 rfl ?_ | refine ent_take 5 rfl ?_ | refine ent_take 6 rfl ?_ | refine ent_take 7 rfl ?_ | refine ent_take 8 rfl ?_ | refine ent_take 9 rfl ?_ | refine ent_take 10 rfl ?_ | refine ent_take 11 rfl ?_ | refine ent_take 12 rfl ?_)), ?_⟩
        rw [hrow]
        refine de rfl rfl ?_
        refine cl (offers_ok yr.1 _ (ra v) _ (FF s gt v) (by omega)) rfl (picked_nil _) ⟨⟨_, RdSI.rd (ad := yr.1)⟩, ⟨_, RdSI.rd (ad := ra v)⟩⟩ ?_
        intro _ _
        change ent _ _ ∧ TD _ _ _ _ _ _ _ _ _ _ (sepL [_, _, _, _, _, _])
        refine ⟨(by repeat (first | exact ent_nil _ | refine ent_take 0 rfl ?_ | refine ent_take 1 rfl ?_ | refine ent_take 2 rfl ?_ | refine ent_take 3 rfl ?_ | refine ent_take 4 rfl ?_ | refine ent_take 5 rfl ?_ | refine ent_take 6 rfl ?_ | refine ent_take 7 rfl ?_ | refine ent_take 8 rfl ?_ | refine ent_take 9 rfl ?_ | refine ent_take 10 rfl ?_ | refine ent_take 11 rfl ?_ | refine ent_take 12 rfl ?_)), ?_⟩
        first | refine dq rfl rfl rfl (notD rfl) ?_ | refine dq rfl rfl rfl (notB rfl) ?_
        refine TD.nil (nt ?_)
        refine TC.condF rfl ?_
        refine TC.skip (nb (nt ?_))
        refine TC.region ?_
        refine q rfl rfl (mv (v := .int _ _) rfl) ?_
        first | refine q rfl rfl (addI rfl rfl (by omega) (by omega)) ?_ | refine q rfl rfl (add rfl rfl rfl) ?_
        refine q rfl rfl (asg (v := .int _ _) rfl) ?_
        refine TL.nil (nt ?_)
        exact ⟨rfl, (v + 1), (by omega), (by omega), ⟨rfl, rfl, rfl, rfl, rfl, trivial⟩, (by repeat (first | exact ent_nil _ | refine ent_take 0 rfl ?_ | refine ent_take 1 rfl ?_ | refine ent_take 2 rfl ?_ | refine ent_take 3 rfl ?_ | refine ent_take 4 rfl ?_ | refine ent_take 5 rfl ?_ | refine ent_take 6 rfl ?_ | refine ent_take 7 rfl ?_ | refine ent_take 8 rfl ?_ | refine ent_take 9 rfl ?_ | refine ent_take 10 rfl ?_ | refine ent_take 11 rfl ?_ | refine ent_take 12 rfl ?_))⟩
      · refine TC.exit (et (et (eb (nt ?_))))
        refine TC.seq ?_
        refine TC.seq ?_
        refine TC.region ?_
        refine q rfl rfl (asg (v := .int _ _) rfl) ?_
        refine TL.nil (nt ?_)
        refine TC.block ?_
        refine TC.loop (ι := Nat) (fun k => k ≤ (goneT s gt 8).length) (fun k => [(1, .int .i64 gt), (5, .pointer (some ⟨a, 0, none⟩)), (6, .slice oa (goneT s gt 8).length oc), (12, .int .i64 ((k : Nat) : Int))]) (fun k => sepL [slc 3 1 oa (goneT s gt 8).length oc (ints (goneT s gt 8)), isMa a A V, F]) (fun k => (goneT s gt 8).length - k) 0 (Nat.zero_le _) ⟨rfl, rfl, rfl, rfl, trivial⟩ (by repeat (first | exact ent_nil _ | refine ent_take 0 rfl ?_ | refine ent_take 1 rfl ?_ | refine ent_take 2 rfl ?_ | refine ent_take 3 rfl ?_ | refine ent_take 4 rfl ?_ | refine ent_take 5 rfl ?_ | refine ent_take 6 rfl ?_ | refine ent_take 7 rfl ?_ | refine ent_take 8 rfl ?_ | refine ent_take 9 rfl ?_ | refine ent_take 10 rfl ?_ | refine ent_take 11 rfl ?_ | refine ent_take 12 rfl ?_)) ?_
        rintro k hk ρ3
        dsimp only [updL] at hk ⊢
        refine TC.seq ?_
        refine TC.seq ?_
        refine TC.region ?_
        refine q rfl rfl (mv (v := .int _ _) rfl) ?_
        refine q rfl rfl (mv (v := .slice _ _ _) rfl) ?_
        refine q rfl rfl (len 3 1 rfl rfl) ?_
        refine q rfl rfl (lss rfl rfl) ?_
        refine TL.nil (nt ?_)
        first | refine TC.condD rfl (fun hlt => ?_) (fun hlt => ?_) | refine TC.cond rfl (fun hlt => ?_) (fun hlt => ?_)
        · have hk2 : k < (goneT s gt 8).length := by omega
          obtain ⟨x, hx⟩ : ∃ x, (goneT s gt 8)[k]? = some x := ⟨_, List.getElem?_eq_getElem hk2⟩
          obtain ⟨h1, h2⟩ := hfr x (List.mem_of_getElem? hx)
          have hpos : 0 < (ints (goneT s gt 8)).length := by omega
          refine TC.skip (nt ?_)
          refine TC.seq ?_
          refine TC.block ?_
          refine TC.seq ?_
          refine TC.region ?_
          refine q rfl rfl (mv (v := .pointer _) rfl) ?_
          refine q rfl rfl (mv (v := .slice _ _ _) rfl) ?_
          refine q rfl rfl (mv (v := .int _ _) rfl) ?_
          first | refine q rfl rfl (ixS 3 1 rfl rfl rfl (by omega) (by first | assumption | (simp [ints_length] <;> omega))) ?_ | refine q rfl rfl (ixJ 3 1 rfl rfl rfl (by omega) (by omega) (by first | assumption | (simp [ints_length] <;> omega))) ?_ | refine q rfl rfl (ix 3 1 rfl rfl rfl (by omega) (by omega) rfl) ?_
          first | refine q rfl rfl (ld rfl rfl rfl) ?_ | refine q rfl rfl (ldS rfl rfl (ints_get hx)) ?_ | refine q rfl rfl (ldS rfl rfl rfl) ?_
          refine e rfl ?_
          refine cl (mstate_ok a A V x) rfl PkL.p trivial ?_
          intro _ _
          change TL _ _ _ _ _ _ _ _ (sepL [_, _, _])
          rw [h1]
          refine q rfl rfl (neI rfl rfl) ?_
          refine q rfl rfl (mv (v := .bool _) rfl) ?_
          refine TL.known 96 rfl (c := false) (by decide) ?_
          refine qg rfl rfl rfl (mv (v := .pointer _) rfl) ?_
          refine qg rfl rfl rfl (mv (v := .slice _ _ _) rfl) ?_
          refine qg rfl rfl rfl (mv (v := .int _ _) rfl) ?_
          first | refine qg rfl rfl rfl (ixS 3 1 rfl rfl rfl (by omega) (by first | assumption | (simp [ints_length] <;> omega))) ?_ | refine qg rfl rfl rfl (ixJ 3 1 rfl rfl rfl (by omega) (by omega) (by first | assumption | (simp [ints_length] <;> omega))) ?_ | refine qg rfl rfl rfl (ix 3 1 rfl rfl rfl (by omega) (by omega) rfl) ?_
          first | refine qg rfl rfl rfl (ld rfl rfl rfl) ?_ | refine qg rfl rfl rfl (ldS rfl rfl (ints_get hx)) ?_ | refine qg rfl rfl rfl (ldS rfl rfl rfl) ?_
          refine eg rfl rfl ?_
          refine cl (mpartner_ok a A V x) rfl PkL.p trivial ?_
          intro _ _
          change TL _ _ _ _ _ _ _ _ (sepL [_, _, _])
          rw [h2]
          refine qg rfl rfl rfl (neI rfl rfl) ?_
          first | refine q rfl rfl (pkT (v := .bool _) rfl rfl) ?_ | refine q rfl rfl (pkF (v := .bool _) rfl rfl) ?_
          refine TL.nil (nt ?_)
          refine TC.condD rfl (fun hc4 => absurd hc4 (by decide)) (fun hc4 => ?_)
          refine TC.skip (nb (nt ?_))
          refine TC.region ?_
          refine q rfl rfl (mv (v := .int _ _) rfl) ?_
          first | refine q rfl rfl (addI rfl rfl (by omega) (by omega)) ?_ | refine q rfl rfl (add rfl rfl rfl) ?_
          refine q rfl rfl (asg (v := .int _ _) rfl) ?_
          refine TL.nil (nt ?_)
          exact ⟨rfl, (k + 1), (by omega), (by omega), ⟨rfl, rfl, rfl, rfl, trivial⟩, (by repeat (first | exact ent_nil _ | refine ent_take 0 rfl ?_ | refine ent_take 1 rfl ?_ | refine ent_take 2 rfl ?_ | refine ent_take 3 rfl ?_ | refine ent_take 4 rfl ?_ | refine ent_take 5 rfl ?_ | refine ent_take 6 rfl ?_ | refine ent_take 7 rfl ?_ | refine ent_take 8 rfl ?_ | refine ent_take 9 rfl ?_ | refine ent_take 10 rfl ?_ | refine ent_take 11 rfl ?_ | refine ent_take 12 rfl ?_))⟩
        · refine TC.exit (et (et (eb (nt ?_))))
          refine TC.seq ?_
          refine TC.region ?_
          refine q rfl rfl (mv (v := .pointer _) rfl) ?_
          refine q rfl rfl (mv (v := .int _ _) rfl) ?_
          refine e rfl ?_
          refine cl (mclose_ok a A V hWV gt (by omega)) rfl PkL.p trivial ?_
          intro yd _
          change TL _ _ _ _ _ _ _ _ (sepL [_, _, _, _])
          rw [hno]
          refine q rfl rfl (len 3 1 rfl rfl) ?_
          refine q rfl rfl (eqI rfl rfl) ?_
          refine q rfl rfl (asg (v := .bool _) rfl) ?_
          refine TL.nil (nt ?_)
          refine TC.ret ?_
          exact Ret.i () [_] ⟨rfl, trivial⟩ rfl trivial (by repeat (first | exact ent_nil _ | refine ent_take 0 rfl ?_ | refine ent_take 1 rfl ?_ | refine ent_take 2 rfl ?_ | refine ent_take 3 rfl ?_ | refine ent_take 4 rfl ?_ | refine ent_take 5 rfl ?_ | refine ent_take 6 rfl ?_ | refine ent_take 7 rfl ?_ | refine ent_take 8 rfl ?_ | refine ent_take 9 rfl ?_ | refine ent_take 10 rfl ?_ | refine ent_take 11 rfl ?_ | refine ent_take 12 rfl ?_))

end Go.Proofs.Ytgmniphegombhaa
