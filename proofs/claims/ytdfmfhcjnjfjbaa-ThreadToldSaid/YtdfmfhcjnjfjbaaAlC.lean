/-
  Proved here: what functions of this program compute, each as a contract over symbolic states, under the premises that each theorem names (most lines printed by a program of the prover).
-/
import Derived.Test.YtdfmfhcjnjfjbaaAlB
namespace Go.Proofs.Ytdfmfhcjnjfjbaa.Al
open Go Go.QM
structure AInv (H : List En) (n : Nat) (f : Int → Option Value) (tn : Int) (Q : List En) : Prop where
  n : H.length = n
  hp : Heap H
  wh : WhA f H
  pm : H.Perm Q
  nd : Nd Q
  tn : ∀ e ∈ Q, e.tn ≤ tn
  pw : Q.Pairwise fun a b => a.tn < b.tn
structure ARep where
  H : List En
  n : Nat
  f : Int → Option Value
  ad : Option Addr
  cap : Nat
  wb : Nat
  m : Nat
def isAl (b : Nat) (now tn : Int) (Q : List En) : HP := EX fun y : ARep => pure' (AInv y.H y.n y.f tn Q) (sepL [pts b 93 [.int .i64 now, .int .i64 tn, .slice y.ad y.n y.cap, .map (some y.wb)], slc 117 3 y.ad y.n y.cap (ents y.H), mapF encI y.wb y.f y.m])
theorem AInv.len {H : List En} {n : Nat} {f : Int → Option Value} {tn : Int} {Q : List En} (h : AInv H n f tn Q) : n = Q.length := by rw [← h.n, h.pm.length_eq]
theorem AInv.ndH {H : List En} {n : Nat} {f : Int → Option Value} {tn : Int} {Q : List En} (h : AInv H n f tn Q) : Nd H := h.nd.perm h.pm
theorem AInv.start (tn : Int) : AInv [] 0 (fun _ => none) tn [] := ⟨rfl, (fun k _ h => by simp at h), ⟨(fun j h => by simp at h), fun _ _ => rfl⟩, List.Perm.refl _, List.nodup_nil, (fun e h => by cases h), List.Pairwise.nil⟩
def hasA (Q : List En) (id : Int) : Prop := ∃ e ∈ Q, e.id = id
instance (Q : List En) (id : Int) : Decidable (hasA Q id) := inferInstanceAs (Decidable (∃ e ∈ Q, e.id = id))
theorem AInv.yes {H : List En} {n : Nat} {f : Int → Option Value} {tn : Int} {Q : List En} (h : AInv H n f tn Q) {id : Int} (hy : hasA Q id) : ∃ j, j < n ∧ (gE H j).id = id ∧ f id = some (.int .i64 (j : Int)) := by
  obtain ⟨e, he, rfl⟩ := hy
  obtain ⟨j, h1, h2, h3⟩ := h.wh.some (h.pm.mem_iff.2 he)
  exact ⟨j, by rw [← h.n]; exact h1, by rw [h2], h3⟩
theorem AInv.no {H : List En} {n : Nat} {f : Int → Option Value} {tn : Int} {Q : List En} (h : AInv H n f tn Q) {id : Int} (hy : ¬ hasA Q id) : f id = none :=
  h.wh.none fun e he e2 => hy ⟨e, h.pm.mem_iff.1 he, e2⟩
/-- What Set does. -/
def setA (Q : List En) (now tn id ticks : Int) : List En × Int × Int :=
  if id < 0 ∨ ticks < 1 ∨ 1048576 < ticks then (Q, tn, 1) else if hasA Q id then (Q, tn, 7) else (Q ++ [⟨now + ticks, tn + 1, id⟩], tn + 1, 0)
theorem ents_snoc (H : List En) (e : En) : ents (H ++ [e]) = ents H ++ enC e := by simp [ents]
theorem gE_snoc {H : List En} {e : En} {k : Nat} (h : k < H.length) : gE (H ++ [e]) k = gE H k := by simp [gE, List.getD_eq_getElem?_getD, List.getElem?_append, h]
theorem gE_last (H : List En) (e : En) : gE (H ++ [e]) H.length = e := by simp [gE, List.getD_eq_getElem?_getD]
theorem snoc_hole {H : List En} (h : Heap H) (e : En) : HoleU (H ++ [e]) H.length where
  a := fun k h0 hk hne => by
    rw [List.length_append, List.length_singleton] at hk
    rw [OkAt, gE_snoc (by omega), gE_snoc (by omega)]; exact h k h0 (by omega)
  b := fun k h0 hk hp hi => by rw [List.length_append, List.length_singleton] at hk; omega
theorem snoc_wh {H : List En} {f : Int → Option Value} (h : WhA f H) (e : En) : Wh f (H ++ [e]) H.length where
  a := fun j hj hne => by
    rw [List.length_append, List.length_singleton] at hj
    rw [gE_snoc (by omega)]; exact h.a j (by omega)
  b := fun x hx => h.b x fun j hj => by
    have := hx j (by rw [List.length_append]; omega)
    rwa [gE_snoc hj] at this
theorem snoc_nd {H : List En} (h : Nd H) {e : En} (hx : ∀ a ∈ H, a.id ≠ e.id) : Nd (H ++ [e]) := by
  rw [Nd, List.map_append, List.nodup_append]
  refine ⟨h, by simp, fun x hx1 y hy => ?_⟩
  obtain ⟨a, ha, rfl⟩ := List.mem_map.1 hx1
  simp only [List.map_cons, List.map_nil, List.mem_singleton] at hy
  rw [hy]; exact hx a ha
theorem AInv.set {H H4 : List En} {n : Nat} {f f4 : Int → Option Value} {tn : Int} {Q : List En} (h : AInv H n f tn Q) {e : En} (he : e.tn = tn + 1) (hx : ¬ hasA Q e.id) (h1 : Heap H4) (h2 : WhA f4 H4) (h3 : H4.Perm (H ++ [e])) : AInv H4 (n + 1) f4 (tn + 1) (Q ++ [e]) where
  n := by rw [h3.length_eq, List.length_append, h.n]; rfl
  hp := h1
  wh := h2
  pm := h3.trans (h.pm.append_right _)
  nd := snoc_nd h.nd fun a ha e2 => hx ⟨a, ha, e2⟩
  tn := fun a ha => by
    rcases List.mem_append.1 ha with ha | ha
    · have := h.tn a ha; omega
    · obtain rfl := List.mem_singleton.1 ha; omega
  pw := by
    rw [List.pairwise_append]
    refine ⟨h.pw, List.pairwise_singleton _ _, fun a ha b hb => ?_⟩
    obtain rfl := List.mem_singleton.1 hb
    have := h.tn a ha; omega
/-- Those with other numbers. -/
def offA (Q : List En) (id : Int) : List En := Q.filter fun e => decide (e.id ≠ id)
theorem filter_self {H : List En} {e : En} (h : Nd (e :: H)) : offA (e :: H) e.id = H := by
  rw [offA, List.filter_cons_of_neg (by simp)]
  refine List.filter_eq_self.2 fun a ha => ?_
  have := (List.nodup_cons.1 h).1
  simp only [decide_eq_true_eq]
  exact fun e2 => this (List.mem_map.2 ⟨a, ha, e2⟩)
theorem AInv.off {H H' : List En} {n : Nat} {f f' : Int → Option Value} {tn : Int} {Q : List En} (h : AInv H (n + 1) f tn Q) {j : Nat} {id : Int} (hid : (gE H j).id = id) (h0 : H'.length = n) (h1 : Heap H') (h2 : WhA f' H') (h3 : (gE H j :: H').Perm H) : AInv H' n f' tn (offA Q id) where
  n := h0
  hp := h1
  wh := h2
  pm := by
    have := (h3.trans h.pm).filter fun e => decide (e.id ≠ id)
    have h4 := filter_self (h.ndH.perm h3)
    rw [hid] at h4
    rw [offA] at h4 ⊢
    rwa [h4] at this
  nd := h.nd.sublist ((List.filter_sublist).map _)
  tn := fun e he => h.tn e (List.mem_filter.1 he).1
  pw := h.pw.sublist List.filter_sublist
theorem off_none {Q : List En} {id : Int} (h : ¬ hasA Q id) : offA Q id = Q := List.filter_eq_self.2 fun a ha => by
  simp only [decide_eq_true_eq]; exact fun e => h ⟨a, ha, e⟩
theorem off_length {Q : List En} {id : Int} (h : hasA Q id) (hn : Nd Q) : (offA Q id).length + 1 = Q.length := by
  obtain ⟨e, he, rfl⟩ := h
  obtain ⟨s, t, rfl⟩ := List.append_of_mem he
  have hp : (e :: (s ++ t)).Perm (s ++ e :: t) := List.perm_middle.symm
  have h1 := (hp.filter fun a => decide (a.id ≠ e.id)).length_eq
  have h2 := filter_self (hn.perm hp)
  rw [offA] at h2 ⊢
  rw [← h1, h2, ← hp.length_eq]; rfl
/-- What Clear does. -/
def clrA (Q : List En) (ids : List Int) : List En := ids.foldl offA Q
theorem clrA_snoc (Q : List En) (ids : List Int) (x : Int) : clrA Q (ids ++ [x]) = offA (clrA Q ids) x := by simp [clrA]
theorem clrA_sub (Q : List En) : ∀ ids, (clrA Q ids).Sublist Q
  | [] => List.Sublist.refl _
  | x :: l => by rw [clrA, List.foldl_cons]; exact (clrA_sub (offA Q x) l).trans List.filter_sublist
theorem clrA_eq (Q : List En) (ids : List Int) : clrA Q ids = Q.filter fun e => decide (e.id ∉ ids) := by
  induction ids generalizing Q with
  | nil => exact (List.filter_eq_self.2 fun a _ => by simp).symm
  | cons x l ih =>
    rw [clrA, List.foldl_cons]
    have := ih (offA Q x)
    rw [clrA] at this
    rw [this, offA, List.filter_filter]
    congr 1; funext e
    rw [Bool.eq_iff_iff]
    simp only [Bool.and_eq_true, decide_eq_true_eq, List.mem_cons, not_or]
    exact ⟨fun h => ⟨h.2, h.1⟩, fun h => ⟨h.2, h.1⟩⟩
/-- Who is due, who isn't. -/
def dueA (t : Int) (Q : List En) : List En := Q.filter fun e => decide (e.at_ ≤ t)
def restA (t : Int) (Q : List En) : List En := Q.filter fun e => decide (¬ e.at_ ≤ t)
def ids (Q : List En) : List Int := Q.map (·.id)
theorem due_step {H : List En} {n : Nat} {f : Int → Option Value} {tn t : Int} {Q : List En} (h : AInv H n f tn Q) (h0 : 0 < n) (hle : (gE H 0).at_ ≤ t) (hb : ∀ e ∈ Q, t ≤ e.at_) :
    dueA t Q = gE H 0 :: dueA t (offA Q (gE H 0).id) ∧ restA t Q = restA t (offA Q (gE H 0).id) := by
  have hn := h.n
  have hmem : gE H 0 ∈ Q := h.pm.mem_iff.1 (gE_mem (by omega))
  have hmin : ∀ a ∈ Q, a.at_ ≤ t → (gE H 0).tn ≤ a.tn := fun a ha hat => by
    obtain ⟨k, hk⟩ := List.getElem?_of_mem (h.pm.mem_iff.2 ha)
    have hkl := (List.getElem?_eq_some_iff.1 hk).1
    have := h.hp.min k hkl
    rw [gE_of hk] at this
    have h1 := hb _ hmem
    have h2 := hb a ha
    simp only [Lt] at this; omega
  generalize gE H 0 = e at hmem hle hmin ⊢
  have hnd := h.nd
  have hpw := h.pw
  clear h hn
  obtain ⟨s, r, rfl⟩ := List.append_of_mem hmem
  have hp : (e :: (s ++ r)).Perm (s ++ e :: r) := List.perm_middle.symm
  have hsr : ∀ a ∈ s ++ r, a.id ≠ e.id := fun a ha e2 => by
    have := (List.nodup_cons.1 (hnd.perm hp)).1
    exact this (List.mem_map.2 ⟨a, ha, e2⟩)
  have hs : ∀ a ∈ s, ¬ a.at_ ≤ t := fun a ha hat => by
    have h1 := hmin a (by simp [ha]) hat
    have h2 := (List.pairwise_append.1 hpw).2.2 a ha e (by simp)
    omega
  have hoff : offA (s ++ e :: r) e.id = s ++ r := by
    rw [offA, List.filter_append, List.filter_cons_of_neg (by simp)]
    rw [List.filter_eq_self.2 (fun a ha => by simpa using hsr a (by simp [ha])), List.filter_eq_self.2 (fun a ha => by simpa using hsr a (by simp [ha]))]
  rw [hoff]
  constructor
  · rw [dueA, dueA, List.filter_append, List.filter_append, List.filter_eq_nil_iff.2 (fun a ha => by simpa using hs a ha), List.filter_cons_of_pos (by simpa using hle)]; rfl
  · rw [restA, restA, List.filter_append, List.filter_append, List.filter_cons_of_neg (by simpa using hle)]
theorem due_none {H : List En} {n : Nat} {f : Int → Option Value} {tn t : Int} {Q : List En} (h : AInv H n f tn Q) (hd : n = 0 ∨ ¬ (gE H 0).at_ ≤ t) : dueA t Q = [] ∧ restA t Q = Q := by
  have hall : ∀ a ∈ Q, ¬ a.at_ ≤ t := fun a ha => by
    obtain ⟨k, hk⟩ := List.getElem?_of_mem (h.pm.mem_iff.2 ha)
    have hkl := (List.getElem?_eq_some_iff.1 hk).1
    have := h.hp.min k hkl
    rw [gE_of hk] at this
    rcases hd with hd | hd
    · have := h.n; omega
    · simp only [Lt] at this; omega
  exact ⟨List.filter_eq_nil_iff.2 (fun a ha => by simpa using hall a ha), List.filter_eq_self.2 (fun a ha => by simpa using hall a ha)⟩
/-- What Left tells. -/
def leftA (Q : List En) (now id : Int) : Int := match Q.find? fun e => decide (e.id = id) with
  | some e => e.at_ - now
  | none => 0
theorem left_yes {Q : List En} (hn : Nd Q) {e : En} (he : e ∈ Q) (now : Int) : leftA Q now e.id = e.at_ - now := by
  have : Q.find? (fun a => decide (a.id = e.id)) = some e := by
    obtain ⟨s, r, rfl⟩ := List.append_of_mem he
    have hp : (e :: (s ++ r)).Perm (s ++ e :: r) := List.perm_middle.symm
    rw [List.find?_append, List.find?_eq_none.2 (fun a ha => ?_)]
    · simp
    · simp only [decide_eq_true_eq]
      exact fun e2 => (List.nodup_cons.1 (hn.perm hp)).1 (List.mem_map.2 ⟨a, by simp [ha], e2⟩)
  rw [leftA, this]
theorem left_no {Q : List En} {id : Int} (h : ¬ hasA Q id) (now : Int) : leftA Q now id = 0 := by
  have : Q.find? (fun a => decide (a.id = id)) = none := by
    rw [List.find?_eq_none]; intro a ha; simp only [decide_eq_true_eq]; exact fun e2 => h ⟨a, ha, e2⟩
  rw [leftA, this]
/-- The least of numbers. -/
def minL : List Int → Int
  | [] => 0
  | x :: l => if l = [] then x else min x (minL l)
theorem minL_spec : ∀ {l : List Int}, l ≠ [] → minL l ∈ l ∧ ∀ x ∈ l, minL l ≤ x
  | [], h => (h rfl).elim
  | x :: l, _ => by
    rw [minL]
    split
    · rename_i h; subst h; simp
    · rename_i h
      obtain ⟨h1, h2⟩ := minL_spec h
      constructor
      · rcases Int.le_total x (minL l) with h3 | h3
        · rw [Int.min_eq_left h3]; simp
        · rw [Int.min_eq_right h3]; simp [h1]
      · intro y hy
        rcases List.mem_cons.1 hy with rfl | hy
        · exact Int.min_le_left _ _
        · exact Int.le_trans (Int.min_le_right _ _) (h2 y hy)
theorem minL_of {l : List Int} {m : Int} (hm : m ∈ l) (h : ∀ x ∈ l, m ≤ x) : minL l = m := by
  have := minL_spec (l := l) (List.ne_nil_of_mem hm)
  have h1 := h _ this.1
  have h2 := this.2 m hm
  omega
/-- What Next tells. -/
def nextA (Q : List En) (now : Int) : Int := if Q = [] then 0 else minL (Q.map (·.at_)) - now
theorem next_of {H : List En} {n : Nat} {f : Int → Option Value} {tn : Int} {Q : List En} (h : AInv H n f tn Q) (h0 : 0 < n) (now : Int) : nextA Q now = (gE H 0).at_ - now := by
  have hn := h.n
  have hmem : gE H 0 ∈ Q := h.pm.mem_iff.1 (gE_mem (by omega))
  rw [nextA, if_neg (List.ne_nil_of_mem hmem), minL_of (List.mem_map_of_mem (f := fun e : En => e.at_) hmem)]
  intro x hx
  obtain ⟨a, ha, rfl⟩ := List.mem_map.1 hx
  obtain ⟨k, hk⟩ := List.getElem?_of_mem (h.pm.mem_iff.2 ha)
  have := h.hp.min k (List.getElem?_eq_some_iff.1 hk).1
  rw [gE_of hk] at this
  simp only [Lt] at this; omega

set_option maxRecDepth 4000 in
theorem new_ok  : FSpec Try.prog 34 [] noRd [] (fun b : Nat => .pointer (some ⟨b, 0, none⟩)) (fun _ => True) (fun b => [isAl b 0 0 []]) := by
  refine FSpec.intro (rs := [.tmp 0]) (by kernel_rfl) Try.func34 rfl Try.ntmps34 (by rfl) rfl ?_
  intro F _
  change TC _ _ _ _ _ _ _ (sepL [_])
  refine TC.seq ?_
  refine TC.region ?_
  refine q rfl rfl (asg (v := .pointer _) rfl) ?_
  refine TL.nil (nt ?_)
  refine TC.seq ?_
  refine TC.region ?_
  refine e rfl ?_
  refine mkF encI ?_
  intro b1
  first | refine q rfl rfl (bld (cs := [.int _ _, .int _ _, .slice _ _ _, .map _]) rfl) ?_ | refine q rfl rfl (bld (cs := [_, _, _, _]) rfl) ?_
  refine e rfl ?_
  refine bx (v := .agg #[_, _, _, _]) (l := [.int _ _, .int _ _, .slice _ _ _, .map _]) rfl rfl ?_
  intro b2
  refine q rfl rfl (asg (v := .pointer _) rfl) ?_
  refine TL.nil (nt ?_)
  refine TC.ret ?_
  exact Ret.i b2 [_] ⟨rfl, trivial⟩ rfl trivial ((slc_nil 117 3 _).trans (ent_close ⟨[], 0, fun _ => none, none, 0, b1, 0⟩ (AInv.start 0) (ent_take 1 rfl (ent_take 0 rfl (ent_take 0 rfl (ent_take 0 rfl (ent_nil _)))))))

set_option maxRecDepth 4000 in
theorem left_ok (b : Nat) (now tn : Int) (Q : List En) (hb : (0 ≤ now ∧ now ≤ 1000000000000) ∧ (0 ≤ tn ∧ tn ≤ 1000000000000) ∧ Q.length ≤ 500000) (id : Int) (ht : ∀ e ∈ Q, 0 ≤ e.at_ ∧ e.at_ ≤ 2000000000000) : FSpec Try.prog 49 [.pointer (some ⟨b, 0, none⟩), .int .i64 id] noRd [isAl b now tn Q] (fun _ : Unit => .int .i64 (leftA Q now id)) (fun _ => True) (fun _ => [isAl b now tn Q]) := by
  refine FSpec.intro (rs := [.tmp 4]) (by kernel_rfl) Try.func49 rfl Try.ntmps49 (by rfl) rfl ?_
  intro F _
  change TC _ _ _ _ _ _ _ (sepL [_, _])
  refine TC.open 0 rfl (fun x0 hx0 => ?_)
  obtain ⟨H, n, f, ad, cap, wb, m⟩ := x0
  have hA := hx0
  change TC _ _ _ _ _ _ _ (sepL [_, _, _, _])
  dsimp only at hA ⊢
  have hHn := hA.n
  have hnQ := hA.len
  have hel := ents_length H
  by_cases hy : hasA Q id
  · obtain ⟨j, hj, hid, hf⟩ := hA.yes hy
    have hg := gE_get (show j < H.length by omega)
    have hm := hA.pm.mem_iff.1 (gE_mem (show j < H.length by omega))
    have hbt := ht _ hm
    have hR := left_yes hA.nd hm now
    have hpl : 0 < (ents H).length := by omega
    rw [hid] at hR
    rw [hR]
    refine TC.seq ?_
    refine TC.region ?_
    refine q rfl rfl (asg (v := .int _ _) rfl) ?_
    refine TL.nil (nt ?_)
    refine TC.seq ?_
    refine TC.seq ?_
    refine TC.region ?_
    refine q rfl rfl (mv (v := .pointer _) rfl) ?_
    refine q rfl rfl (eqNil rfl rfl rfl) ?_
    refine TL.nil (nt ?_)
    refine TC.condF rfl ?_
    refine TC.skip (nt ?_)
    refine TC.seq ?_
    refine TC.region ?_
    refine q rfl rfl (mv (v := .pointer _) rfl) ?_
    first | refine q rfl rfl (nc rfl) ?_ | refine q rfl rfl (ncF rfl) ?_ | refine q rfl rfl (ncS rfl (by first | assumption | (simp [ints_length] <;> omega))) ?_
    first | refine q rfl rfl (fa 3 rfl rfl) ?_ | refine q rfl rfl (faS 3 rfl rfl (by first | assumption | (simp [ints_length] <;> omega))) ?_
    first | refine q rfl rfl (ld rfl rfl rfl) ?_ | refine q rfl rfl (ldS rfl rfl rfl) ?_
    refine q rfl rfl (mv (v := .int _ _) rfl) ?_
    refine q rfl rfl (luFO 3 3 rfl rfl (KL.int rfl) rfl rfl) ?_
    rw [hf]
    refine q rfl rfl (mv (v := .tuple _) rfl) ?_
    refine q rfl rfl (pu (v := .int _ _) (fun _ => rfl)) ?_
    refine q rfl rfl (pu (v := .bool _) (fun _ => rfl)) ?_
    refine q rfl rfl (asg (v := .int _ _) rfl) ?_
    refine q rfl rfl (asg (v := .bool _) rfl) ?_
    refine TL.nil (nt ?_)
    refine TC.seq ?_
    refine TC.seq ?_
    refine TC.region ?_
    refine q rfl rfl (mv (v := .bool _) rfl) ?_
    first | refine q rfl rfl (notD rfl) ?_ | refine q rfl rfl (notB rfl) ?_
    refine TL.nil (nt ?_)
    refine TC.condF rfl ?_
    refine TC.skip (nt ?_)
    refine TC.seq ?_
    refine TC.draw _ [] [(0, false), (1, false), (2, false), (3, false), (4, false), (5, false), (6, false), (7, false), (8, false), (9, false), (10, false), (11, false), (12, false), (13, false), (14, false)] (by kernel_rfl) (by kernel_rfl) (ent.refl _) ?_
    refine dq rfl rfl rfl (mv (v := .pointer _) rfl) ?_
    first | refine dq rfl rfl rfl (nc rfl) ?_ | refine dq rfl rfl rfl (ncF rfl) ?_ | refine dq rfl rfl rfl (ncS rfl (by first | assumption | (simp [ints_length] <;> omega))) ?_
    first | refine dq rfl rfl rfl (fa 2 rfl rfl) ?_ | refine dq rfl rfl rfl (faS 2 rfl rfl (by first | assumption | (simp [ints_length] <;> omega))) ?_
    first | refine dq rfl rfl rfl (ld rfl rfl rfl) ?_ | refine dq rfl rfl rfl (ldS rfl rfl (flat_ld enC_sz hg 0 (by omega) rfl)) ?_ | refine dq rfl rfl rfl (ldS rfl rfl rfl) ?_
    refine dq rfl rfl rfl (mv (v := .int _ _) rfl) ?_
    first | refine dq rfl rfl rfl (ixS 117 3 rfl rfl rfl (by omega) (by first | assumption | (simp [ints_length] <;> omega))) ?_ | refine dq rfl rfl rfl (ixJ 117 3 rfl rfl rfl (by omega) (by omega) (by first | assumption | (simp [ints_length] <;> omega))) ?_ | refine dq rfl rfl rfl (ix 117 3 rfl rfl rfl (by omega) (by omega) rfl) ?_
    first | refine dq rfl rfl rfl (fa 0 rfl rfl) ?_ | refine dq rfl rfl rfl (faS 0 rfl rfl (by first | assumption | (simp [ints_length] <;> omega))) ?_
    first | refine dq rfl rfl rfl (fa 0 rfl rfl) ?_ | refine dq rfl rfl rfl (faS 0 rfl rfl (by first | assumption | (simp [ints_length] <;> omega))) ?_
    first | refine dq rfl rfl rfl (ld rfl rfl rfl) ?_ | refine dq rfl rfl rfl (ldS rfl rfl (flat_ld enC_sz hg 0 (by omega) rfl)) ?_ | refine dq rfl rfl rfl (ldS rfl rfl rfl) ?_
    refine dq rfl rfl rfl (mv (v := .pointer _) rfl) ?_
    first | refine dq rfl rfl rfl (nc rfl) ?_ | refine dq rfl rfl rfl (ncF rfl) ?_ | refine dq rfl rfl rfl (ncS rfl (by first | assumption | (simp [ints_length] <;> omega))) ?_
    first | refine dq rfl rfl rfl (fa 0 rfl rfl) ?_ | refine dq rfl rfl rfl (faS 0 rfl rfl (by first | assumption | (simp [ints_length] <;> omega))) ?_
    first | refine dq rfl rfl rfl (ld rfl rfl rfl) ?_ | refine dq rfl rfl rfl (ldS rfl rfl (flat_ld enC_sz hg 0 (by omega) rfl)) ?_ | refine dq rfl rfl rfl (ldS rfl rfl rfl) ?_
    first | refine dq rfl rfl rfl (subI rfl rfl (by omega) (by omega)) ?_ | refine dq rfl rfl rfl (sub rfl rfl rfl) ?_
    refine dq rfl rfl rfl (asg (v := .int _ _) rfl) ?_
    refine TD.nil (nt ?_)
    refine TC.ret ?_
    exact Ret.i () [_] ⟨rfl, trivial⟩ rfl trivial (ent_close ⟨H, n, f, ad, cap, wb, m⟩ hA (ent_take 0 rfl (ent_take 0 rfl (ent_take 0 rfl (ent_take 0 rfl (ent_nil _))))))
  · have hf := hA.no hy
    have hR := left_no hy now
    rw [hR]
    refine TC.seq ?_
    refine TC.region ?_
    refine q rfl rfl (asg (v := .int _ _) rfl) ?_
    refine TL.nil (nt ?_)
    refine TC.seq ?_
    refine TC.seq ?_
    refine TC.region ?_
    refine q rfl rfl (mv (v := .pointer _) rfl) ?_
    refine q rfl rfl (eqNil rfl rfl rfl) ?_
    refine TL.nil (nt ?_)
    refine TC.condF rfl ?_
    refine TC.skip (nt ?_)
    refine TC.seq ?_
    refine TC.region ?_
    refine q rfl rfl (mv (v := .pointer _) rfl) ?_
    first | refine q rfl rfl (nc rfl) ?_ | refine q rfl rfl (ncF rfl) ?_ | refine q rfl rfl (ncS rfl (by first | assumption | (simp [ints_length] <;> omega))) ?_
    first | refine q rfl rfl (fa 3 rfl rfl) ?_ | refine q rfl rfl (faS 3 rfl rfl (by first | assumption | (simp [ints_length] <;> omega))) ?_
    first | refine q rfl rfl (ld rfl rfl rfl) ?_ | refine q rfl rfl (ldS rfl rfl rfl) ?_
    refine q rfl rfl (mv (v := .int _ _) rfl) ?_
    refine q rfl rfl (luFO 3 3 rfl rfl (KL.int rfl) rfl rfl) ?_
    rw [hf]
    refine q rfl rfl (mv (v := .tuple _) rfl) ?_
    refine q rfl rfl (pu (v := .int _ _) (fun _ => rfl)) ?_
    refine q rfl rfl (pu (v := .bool _) (fun _ => rfl)) ?_
    refine q rfl rfl (asg (v := .int _ _) rfl) ?_
    refine q rfl rfl (asg (v := .bool _) rfl) ?_
    refine TL.nil (nt ?_)
    refine TC.seq ?_
    refine TC.seq ?_
    refine TC.region ?_
    refine q rfl rfl (mv (v := .bool _) rfl) ?_
    first | refine q rfl rfl (notD rfl) ?_ | refine q rfl rfl (notB rfl) ?_
    refine TL.nil (nt ?_)
    refine TC.condT rfl ?_
    refine TC.seq ?_
    refine TC.region ?_
    refine q rfl rfl (asg (v := .int _ _) rfl) ?_
    refine TL.nil (nt ?_)
    refine TC.ret (rt ?_)
    exact Ret.i () [_] ⟨rfl, trivial⟩ rfl trivial (ent_close ⟨H, n, f, ad, cap, wb, m⟩ hA (ent_take 0 rfl (ent_take 0 rfl (ent_take 0 rfl (ent_take 0 rfl (ent_nil _))))))

set_option maxRecDepth 4000 in
theorem left_nil (id : Int) : FSpec Try.prog 49 [.pointer none, .int .i64 id] noRd [] (fun _ : Unit => .int .i64 0) (fun _ => True) (fun _ => []) := by
  refine FSpec.intro (rs := [.tmp 4]) (by kernel_rfl) Try.func49 rfl Try.ntmps49 (by rfl) rfl ?_
  intro F _
  change TC _ _ _ _ _ _ _ (sepL [_])
  refine TC.seq ?_
  refine TC.region ?_
  refine q rfl rfl (asg (v := .int _ _) rfl) ?_
  refine TL.nil (nt ?_)
  refine TC.seq ?_
  refine TC.seq ?_
  refine TC.region ?_
  refine q rfl rfl (mv (v := .pointer _) rfl) ?_
  refine q rfl rfl (eqNil rfl rfl rfl) ?_
  refine TL.nil (nt ?_)
  refine TC.condT rfl ?_
  refine TC.seq ?_
  refine TC.region ?_
  refine q rfl rfl (asg (v := .int _ _) rfl) ?_
  refine TL.nil (nt ?_)
  refine TC.ret (rt ?_)
  exact Ret.i () [_] ⟨rfl, trivial⟩ rfl trivial (ent_take 0 rfl (ent_nil _))

set_option maxRecDepth 4000 in
theorem set_ok (b : Nat) (now tn : Int) (Q : List En) (hb : (0 ≤ now ∧ now ≤ 1000000000000) ∧ (0 ≤ tn ∧ tn ≤ 1000000000000) ∧ Q.length ≤ 500000) (id ticks : Int) : FSpec Try.prog 65 [.pointer (some ⟨b, 0, none⟩), .int .i64 id, .int .i64 ticks] noRd [isAl b now tn Q] (fun _ : Unit => .int .i64 (setA Q now tn id ticks).2.2) (fun _ => True) (fun _ => [isAl b now (setA Q now tn id ticks).2.1 (setA Q now tn id ticks).1]) := by
  refine FSpec.intro (rs := [.tmp 6]) (by kernel_rfl) Try.func65 rfl Try.ntmps65 (by rfl) rfl ?_
  intro F _
  change TC _ _ _ _ _ _ _ (sepL [_, _])
  refine TC.seq ?_
  refine TC.region ?_
  refine q rfl rfl (asg (v := .int _ _) rfl) ?_
  refine TL.nil (nt ?_)
  refine TC.seq ?_
  refine TC.seq ?_
  refine TC.region ?_
  refine q rfl rfl (mv (v := .pointer _) rfl) ?_
  refine q rfl rfl (eqNil rfl rfl rfl) ?_
  refine q rfl rfl (mv (v := .bool _) rfl) ?_
  refine TL.known 11 rfl (c := false) rfl ?_
  refine qg rfl rfl rfl (mv (v := .int _ _) rfl) ?_
  refine qg rfl rfl rfl (lss rfl rfl) ?_
  first | refine q rfl rfl (pkT (v := .bool _) rfl rfl) ?_ | refine q rfl rfl (pkF (v := .bool _) rfl rfl) ?_
  refine q rfl rfl (mv (v := .bool _) rfl) ?_
  refine TL.split 15 rfl (fun hs0 => ?_) (fun hs0 => ?_)
  · have hs0 := of_decide_eq_true hs0
    have hR : setA Q now tn id ticks = (Q, tn, 1) := by rw [setA, if_pos (by omega)]
    rw [hR]
    dsimp only
    refine qs rfl rfl ?_
    refine qs rfl rfl ?_
    first | refine q rfl rfl (pkT (v := .bool _) rfl rfl) ?_ | refine q rfl rfl (pkF (v := .bool _) rfl rfl) ?_
    refine q rfl rfl (mv (v := .bool _) rfl) ?_
    refine qs rfl rfl ?_
    refine qs rfl rfl ?_
    first | refine q rfl rfl (pkT (v := .bool _) rfl rfl) ?_ | refine q rfl rfl (pkF (v := .bool _) rfl rfl) ?_
    refine TL.nil (nt ?_)
    refine TC.condT rfl ?_
    refine TC.seq ?_
    refine TC.region ?_
    refine q rfl rfl (asg (v := .int _ _) rfl) ?_
    refine TL.nil (nt ?_)
    refine TC.ret (rt ?_)
    exact Ret.i () [_] ⟨rfl, trivial⟩ rfl trivial (ent_take 0 rfl (ent_take 0 rfl (ent_nil _)))
  · have hs0 := of_decide_eq_false hs0
    refine qg rfl rfl rfl (mv (v := .int _ _) rfl) ?_
    refine qg rfl rfl rfl (lss rfl rfl) ?_
    first | refine q rfl rfl (pkT (v := .bool _) rfl rfl) ?_ | refine q rfl rfl (pkF (v := .bool _) rfl rfl) ?_
    refine q rfl rfl (mv (v := .bool _) rfl) ?_
    refine TL.split 19 rfl (fun hs1 => ?_) (fun hs1 => ?_)
    · have hs1 := of_decide_eq_true hs1
      have hR : setA Q now tn id ticks = (Q, tn, 1) := by rw [setA, if_pos (by omega)]
      rw [hR]
      dsimp only
      refine qs rfl rfl ?_
      refine qs rfl rfl ?_
      first | refine q rfl rfl (pkT (v := .bool _) rfl rfl) ?_ | refine q rfl rfl (pkF (v := .bool _) rfl rfl) ?_
      refine TL.nil (nt ?_)
      refine TC.condT rfl ?_
      refine TC.seq ?_
      refine TC.region ?_
      refine q rfl rfl (asg (v := .int _ _) rfl) ?_
      refine TL.nil (nt ?_)
      refine TC.ret (rt ?_)
      exact Ret.i () [_] ⟨rfl, trivial⟩ rfl trivial (ent_take 0 rfl (ent_take 0 rfl (ent_nil _)))
    · have hs1 := of_decide_eq_false hs1
      refine qg rfl rfl rfl (mv (v := .int _ _) rfl) ?_
      refine qg rfl rfl rfl (gtr rfl rfl) ?_
      first | refine q rfl rfl (pkT (v := .bool _) rfl rfl) ?_ | refine q rfl rfl (pkF (v := .bool _) rfl rfl) ?_
      refine TL.nil (nt ?_)
      first | refine TC.condD rfl (fun hs2 => ?_) (fun hs2 => ?_) | refine TC.cond rfl (fun hs2 => ?_) (fun hs2 => ?_)
      · have hR : setA Q now tn id ticks = (Q, tn, 1) := by rw [setA, if_pos (by omega)]
        rw [hR]
        dsimp only
        refine TC.seq ?_
        refine TC.region ?_
        refine q rfl rfl (asg (v := .int _ _) rfl) ?_
        refine TL.nil (nt ?_)
        refine TC.ret (rt ?_)
        exact Ret.i () [_] ⟨rfl, trivial⟩ rfl trivial (ent_take 0 rfl (ent_take 0 rfl (ent_nil _)))
      · by_cases hy : hasA Q id
        · have hR : setA Q now tn id ticks = (Q, tn, 7) := by rw [setA, if_neg (by omega), if_pos hy]
          rw [hR]
          dsimp only
          refine TC.open 0 rfl (fun x0 hx0 => ?_)
          obtain ⟨H, n, f, ad, cap, wb, m⟩ := x0
          have hA := hx0
          change TC _ _ _ _ _ _ _ (sepL [_, _, _, _])
          dsimp only at hA ⊢
          have hHn := hA.n
          have hnQ := hA.len
          have hel := ents_length H
          obtain ⟨j, hj, hid, hf⟩ := hA.yes hy
          refine TC.skip (nt ?_)
          refine TC.seq ?_
          refine TC.seq ?_
          refine TC.region ?_
          refine q rfl rfl (mv (v := .pointer _) rfl) ?_
          first | refine q rfl rfl (nc rfl) ?_ | refine q rfl rfl (ncF rfl) ?_ | refine q rfl rfl (ncS rfl (by first | assumption | (simp [ints_length] <;> omega))) ?_
          first | refine q rfl rfl (fa 3 rfl rfl) ?_ | refine q rfl rfl (faS 3 rfl rfl (by first | assumption | (simp [ints_length] <;> omega))) ?_
          first | refine q rfl rfl (ld rfl rfl rfl) ?_ | refine q rfl rfl (ldS rfl rfl rfl) ?_
          refine q rfl rfl (mv (v := .int _ _) rfl) ?_
          refine q rfl rfl (luFO 3 3 rfl rfl (KL.int rfl) rfl rfl) ?_
          rw [hf]
          refine q rfl rfl (mv (v := .tuple _) rfl) ?_
          refine q rfl rfl (pu (v := .int _ _) (fun _ => rfl)) ?_
          refine q rfl rfl (pu (v := .bool _) (fun _ => rfl)) ?_
          refine q rfl rfl (asg (v := .int _ _) rfl) ?_
          refine q rfl rfl (asg (v := .bool _) rfl) ?_
          refine TL.nil (nt ?_)
          refine TC.seq ?_
          refine TC.region ?_
          refine q rfl rfl (mv (v := .bool _) rfl) ?_
          refine TL.nil (nt ?_)
          refine TC.condT rfl ?_
          refine TC.seq ?_
          refine TC.region ?_
          refine q rfl rfl (asg (v := .int _ _) rfl) ?_
          refine TL.nil (nt ?_)
          refine TC.ret (rt ?_)
          exact Ret.i () [_] ⟨rfl, trivial⟩ rfl trivial (ent_close ⟨H, n, f, ad, cap, wb, m⟩ hA (ent_take 0 rfl (ent_take 0 rfl (ent_take 0 rfl (ent_take 0 rfl (ent_nil _))))))
        · have hR : setA Q now tn id ticks = (Q ++ [⟨now + ticks, tn + 1, id⟩], tn + 1, 0) := by rw [setA, if_neg (by omega), if_neg hy]
          rw [hR]
          dsimp only
          refine TC.open 0 rfl (fun x0 hx0 => ?_)
          obtain ⟨H, n, f, ad, cap, wb, m⟩ := x0
          have hA := hx0
          change TC _ _ _ _ _ _ _ (sepL [_, _, _, _])
          dsimp only at hA ⊢
          have hHn := hA.n
          have hnQ := hA.len
          have hel := ents_length H
          have hf := hA.no hy
          refine TC.skip (nt ?_)
          refine TC.seq ?_
          refine TC.seq ?_
          refine TC.region ?_
          refine q rfl rfl (mv (v := .pointer _) rfl) ?_
          first | refine q rfl rfl (nc rfl) ?_ | refine q rfl rfl (ncF rfl) ?_ | refine q rfl rfl (ncS rfl (by first | assumption | (simp [ints_length] <;> omega))) ?_
          first | refine q rfl rfl (fa 3 rfl rfl) ?_ | refine q rfl rfl (faS 3 rfl rfl (by first | assumption | (simp [ints_length] <;> omega))) ?_
          first | refine q rfl rfl (ld rfl rfl rfl) ?_ | refine q rfl rfl (ldS rfl rfl rfl) ?_
          refine q rfl rfl (mv (v := .int _ _) rfl) ?_
          refine q rfl rfl (luFO 3 3 rfl rfl (KL.int rfl) rfl rfl) ?_
          rw [hf]
          refine q rfl rfl (mv (v := .tuple _) rfl) ?_
          refine q rfl rfl (pu (v := .int _ _) (fun _ => rfl)) ?_
          refine q rfl rfl (pu (v := .bool _) (fun _ => rfl)) ?_
          refine q rfl rfl (asg (v := .int _ _) rfl) ?_
          refine q rfl rfl (asg (v := .bool _) rfl) ?_
          refine TL.nil (nt ?_)
          refine TC.seq ?_
          refine TC.region ?_
          refine q rfl rfl (mv (v := .bool _) rfl) ?_
          refine TL.nil (nt ?_)
          refine TC.condF rfl ?_
          refine TC.skip (nt ?_)
          refine TC.seq ?_
          refine TC.region ?_
          refine q rfl rfl (mv (v := .pointer _) rfl) ?_
          first | refine q rfl rfl (nc rfl) ?_ | refine q rfl rfl (ncF rfl) ?_ | refine q rfl rfl (ncS rfl (by first | assumption | (simp [ints_length] <;> omega))) ?_
          first | refine q rfl rfl (fa 1 rfl rfl) ?_ | refine q rfl rfl (faS 1 rfl rfl (by first | assumption | (simp [ints_length] <;> omega))) ?_
          first | refine q rfl rfl (ld rfl rfl rfl) ?_ | refine q rfl rfl (ldS rfl rfl rfl) ?_
          first | refine q rfl rfl (addI rfl rfl (by omega) (by omega)) ?_ | refine q rfl rfl (add rfl rfl rfl) ?_
          first | refine q rfl rfl (nc rfl) ?_ | refine q rfl rfl (ncF rfl) ?_ | refine q rfl rfl (ncS rfl (by first | assumption | (simp [ints_length] <;> omega))) ?_
          first | refine q rfl rfl (fa 1 rfl rfl) ?_ | refine q rfl rfl (faS 1 rfl rfl (by first | assumption | (simp [ints_length] <;> omega))) ?_
          refine e0 ?_
          refine st (v := .int _ _) (vs := [_]) 1 rfl rfl rfl rfl rfl rfl (Nat.le_of_ble_eq_true rfl) rfl ?_
          refine TL.nil (nt ?_)
          refine TC.seq ?_
          refine TC.draw _ [22] [(0, false), (1, false), (2, false), (3, false), (4, false), (5, false), (6, false), (7, false), (8, false), (9, false), (10, false), (11, false), (12, false), (13, false), (14, false), (15, false), (16, false), (17, false), (18, true), (19, true), (20, false), (21, false), (22, true)] (by kernel_rfl) (by kernel_rfl) (ent_take 0 rfl (ent_nil _)) ?_
          refine dq rfl rfl rfl (mv (v := .pointer _) rfl) ?_
          refine dq rfl rfl rfl (mv (v := .pointer _) rfl) ?_
          first | refine dq rfl rfl rfl (nc rfl) ?_ | refine dq rfl rfl rfl (ncF rfl) ?_ | refine dq rfl rfl rfl (ncS rfl (by first | assumption | (simp [ints_length] <;> omega))) ?_
          first | refine dq rfl rfl rfl (fa 2 rfl rfl) ?_ | refine dq rfl rfl rfl (faS 2 rfl rfl (by first | assumption | (simp [ints_length] <;> omega))) ?_
          first | refine dq rfl rfl rfl (ld rfl rfl rfl) ?_ | refine dq rfl rfl rfl (ldS rfl rfl rfl) ?_
          refine dq rfl rfl rfl (mv (v := .pointer _) rfl) ?_
          first | refine dq rfl rfl rfl (nc rfl) ?_ | refine dq rfl rfl rfl (ncF rfl) ?_ | refine dq rfl rfl rfl (ncS rfl (by first | assumption | (simp [ints_length] <;> omega))) ?_
          first | refine dq rfl rfl rfl (fa 0 rfl rfl) ?_ | refine dq rfl rfl rfl (faS 0 rfl rfl (by first | assumption | (simp [ints_length] <;> omega))) ?_
          first | refine dq rfl rfl rfl (ld rfl rfl rfl) ?_ | refine dq rfl rfl rfl (ldS rfl rfl rfl) ?_
          refine dq rfl rfl rfl (mv (v := .int _ _) rfl) ?_
          first | refine dq rfl rfl rfl (addI rfl rfl (by omega) (by omega)) ?_ | refine dq rfl rfl rfl (add rfl rfl rfl) ?_
          refine dq rfl rfl rfl (mv (v := .pointer _) rfl) ?_
          first | refine dq rfl rfl rfl (nc rfl) ?_ | refine dq rfl rfl rfl (ncF rfl) ?_ | refine dq rfl rfl rfl (ncS rfl (by first | assumption | (simp [ints_length] <;> omega))) ?_
          first | refine dq rfl rfl rfl (fa 1 rfl rfl) ?_ | refine dq rfl rfl rfl (faS 1 rfl rfl (by first | assumption | (simp [ints_length] <;> omega))) ?_
          first | refine dq rfl rfl rfl (ld rfl rfl rfl) ?_ | refine dq rfl rfl rfl (ldS rfl rfl rfl) ?_
          first | refine dq rfl rfl rfl (bld (cs := ints [_, _]) rfl) ?_ | refine dq rfl rfl rfl (bld (cs := [_, _]) rfl) ?_
          refine dq rfl rfl rfl (mv (v := .int _ _) rfl) ?_
          first | refine dq rfl rfl rfl (bld (cs := ints [_, _, _]) rfl) ?_ | refine dq rfl rfl rfl (bld (cs := [_, _, _]) rfl) ?_
          refine de rfl rfl ?_
          refine bs (cs := ints [_, _, _]) rfl ?_
          intro b3
          refine ⟨(by repeat (first | exact ent_nil _ | refine ent_take 0 rfl ?_ | refine ent_take 1 rfl ?_ | refine ent_take 2 rfl ?_ | refine ent_take 3 rfl ?_ | refine ent_take 4 rfl ?_ | refine ent_take 5 rfl ?_ | refine ent_take 6 rfl ?_ | refine ent_take 7 rfl ?_ | refine ent_take 8 rfl ?_ | refine ent_take 9 rfl ?_ | refine ent_take 10 rfl ?_ | refine ent_take 11 rfl ?_ | refine ent_take 12 rfl ?_)), ?_⟩
          refine de rfl rfl ?_
          refine ap 24 rfl rfl rfl rfl rfl (Nat.le_of_ble_eq_true rfl) (show _ = enC ⟨now + ticks, tn + 1, id⟩ from rfl) rfl (by omega) (by simp only [maxLen]; omega) ?_
          intro ad1 cap1
          refine ⟨(by repeat (first | exact ent_nil _ | refine ent_take 0 rfl ?_ | refine ent_take 1 rfl ?_ | refine ent_take 2 rfl ?_ | refine ent_take 3 rfl ?_ | refine ent_take 4 rfl ?_ | refine ent_take 5 rfl ?_ | refine ent_take 6 rfl ?_ | refine ent_take 7 rfl ?_ | refine ent_take 8 rfl ?_ | refine ent_take 9 rfl ?_ | refine ent_take 10 rfl ?_ | refine ent_take 11 rfl ?_ | refine ent_take 12 rfl ?_)), ?_⟩
          first | refine dq rfl rfl rfl (nc rfl) ?_ | refine dq rfl rfl rfl (ncF rfl) ?_ | refine dq rfl rfl rfl (ncS rfl (by first | assumption | (simp [ints_length] <;> omega))) ?_
          first | refine dq rfl rfl rfl (fa 2 rfl rfl) ?_ | refine dq rfl rfl rfl (faS 2 rfl rfl (by first | assumption | (simp [ints_length] <;> omega))) ?_
          refine dl0 rfl rfl rfl ?_
          refine st (v := .slice _ _ _) (vs := [_]) 1 rfl rfl rfl rfl rfl rfl (Nat.le_of_ble_eq_true rfl) rfl ?_
          refine TD.nil (nt ?_)
          refine TC.seq ?_
          refine TC.region ?_
          refine q rfl rfl (mv (v := .pointer _) rfl) ?_
          refine q rfl rfl (mv (v := .pointer _) rfl) ?_
          first | refine q rfl rfl (nc rfl) ?_ | refine q rfl rfl (ncF rfl) ?_ | refine q rfl rfl (ncS rfl (by first | assumption | (simp [ints_length] <;> omega))) ?_
          first | refine q rfl rfl (fa 2 rfl rfl) ?_ | refine q rfl rfl (faS 2 rfl rfl (by first | assumption | (simp [ints_length] <;> omega))) ?_
          first | refine q rfl rfl (ld rfl rfl rfl) ?_ | refine q rfl rfl (ldS rfl rfl rfl) ?_
          refine q rfl rfl (len 117 3 rfl rfl) ?_
          first | refine q rfl rfl (subI rfl rfl (by omega) (by omega)) ?_ | refine q rfl rfl (sub rfl rfl rfl) ?_
          rw [show (((n + 1 : Nat) : Int) - 1) = (n : Int) from by omega]
          rw [← ents_snoc]
          refine e rfl ?_
          refine cl (up_ok b now (tn + 1) (H ++ [⟨now + ticks, tn + 1, id⟩]) ad1 (n + 1) cap1 wb m f n (by rw [List.length_append, hHn]; rfl) (by omega) (by omega) (by have := snoc_hole hA.hp ⟨now + ticks, tn + 1, id⟩; rwa [hHn] at this) (by have := snoc_wh hA.wh ⟨now + ticks, tn + 1, id⟩; rwa [hHn] at this) (snoc_nd hA.ndH fun a ha e2 => hy ⟨a, hA.pm.mem_iff.1 ha, e2⟩)) rfl (picked_cons 0 rfl (picked_cons 0 rfl (picked_cons 1 rfl (picked_nil _)))) trivial ?_
          intro ⟨H4, f4, m4⟩ ⟨hh4, hw4, hp4⟩
          change TL _ _ _ _ _ _ _ _ (sepL [_, _, _, _, _])
          dsimp only at hh4 hw4 hp4 ⊢
          refine TL.nil (nt ?_)
          refine TC.seq ?_
          refine TC.region ?_
          refine q rfl rfl (asg (v := .int _ _) rfl) ?_
          refine TL.nil (nt ?_)
          refine TC.ret ?_
          exact Ret.i () [_] ⟨rfl, trivial⟩ rfl trivial (ent_close ⟨H4, n + 1, f4, ad1, cap1, wb, m4⟩ (hA.set rfl hy hh4 hw4 hp4) (ent_take 0 rfl (ent_take 0 rfl (ent_take 0 rfl (ent_take 1 rfl (ent_nil _))))))

set_option maxRecDepth 4000 in
theorem set_nil (id ticks : Int) : FSpec Try.prog 65 [.pointer none, .int .i64 id, .int .i64 ticks] noRd [] (fun _ : Unit => .int .i64 1) (fun _ => True) (fun _ => []) := by
  refine FSpec.intro (rs := [.tmp 6]) (by kernel_rfl) Try.func65 rfl Try.ntmps65 (by rfl) rfl ?_
  intro F _
  change TC _ _ _ _ _ _ _ (sepL [_])
  refine TC.seq ?_
  refine TC.region ?_
  refine q rfl rfl (asg (v := .int _ _) rfl) ?_
  refine TL.nil (nt ?_)
  refine TC.seq ?_
  refine TC.seq ?_
  refine TC.region ?_
  refine q rfl rfl (mv (v := .pointer _) rfl) ?_
  refine q rfl rfl (eqNil rfl rfl rfl) ?_
  refine q rfl rfl (mv (v := .bool _) rfl) ?_
  refine TL.known 11 rfl (c := true) rfl ?_
  refine qs rfl rfl ?_
  refine qs rfl rfl ?_
  first | refine q rfl rfl (pkT (v := .bool _) rfl rfl) ?_ | refine q rfl rfl (pkF (v := .bool _) rfl rfl) ?_
  refine q rfl rfl (mv (v := .bool _) rfl) ?_
  refine qs rfl rfl ?_
  refine qs rfl rfl ?_
  first | refine q rfl rfl (pkT (v := .bool _) rfl rfl) ?_ | refine q rfl rfl (pkF (v := .bool _) rfl rfl) ?_
  refine q rfl rfl (mv (v := .bool _) rfl) ?_
  refine qs rfl rfl ?_
  refine qs rfl rfl ?_
  first | refine q rfl rfl (pkT (v := .bool _) rfl rfl) ?_ | refine q rfl rfl (pkF (v := .bool _) rfl rfl) ?_
  refine TL.nil (nt ?_)
  refine TC.condT rfl ?_
  refine TC.seq ?_
  refine TC.region ?_
  refine q rfl rfl (asg (v := .int _ _) rfl) ?_
  refine TL.nil (nt ?_)
  refine TC.ret (rt ?_)
  exact Ret.i () [_] ⟨rfl, trivial⟩ rfl trivial (ent_take 0 rfl (ent_nil _))

set_option maxRecDepth 4000 in
theorem clear_ok (b : Nat) (now tn : Int) (Q : List En) (hb : (0 ≤ now ∧ now ≤ 1000000000000) ∧ (0 ≤ tn ∧ tn ≤ 1000000000000) ∧ Q.length ≤ 500000) (a2 : Option Addr) (c2 : Nat) (xs : List Int) (hx : xs.length ≤ 1000000) : FSpec Try.prog 56 [.pointer (some ⟨b, 0, none⟩), .slice a2 xs.length c2] (fun F => ∃ E, RdS F E a2 (ints xs)) [isAl b now tn Q] (fun _ : Unit => .int .i64 ((Q.length : Int) - (clrA Q xs).length)) (fun _ => True) (fun _ => [isAl b now tn (clrA Q xs)]) := by
  refine FSpec.intro (rs := [.tmp 4]) (by kernel_rfl) Try.func56 rfl Try.ntmps56 (by rfl) rfl ?_
  intro F ⟨E, hF⟩
  change TC _ _ _ _ _ _ _ (sepL [_, _])
  haveI : RdSI F a2 E (ints xs) := ⟨hF⟩
  have hxl := ints_length xs
  refine TC.seq ?_
  refine TC.region ?_
  refine q rfl rfl (asg (v := .int _ _) rfl) ?_
  refine TL.nil (nt ?_)
  refine TC.seq ?_
  refine TC.region ?_
  refine q rfl rfl (asg (v := .int _ _) rfl) ?_
  refine TL.nil (nt ?_)
  refine TC.seq ?_
  refine TC.seq ?_
  refine TC.region ?_
  refine q rfl rfl (mv (v := .slice _ _ _) rfl) ?_
  refine q rfl rfl (len 3 1 rfl rfl) ?_
  refine q rfl rfl (mv (v := .int _ _) rfl) ?_
  refine TL.nil (nt ?_)
  refine TC.block ?_
  refine TC.loop (ι := Nat × List En) (fun s => s.1 ≤ xs.length ∧ s.2 = clrA Q (xs.take s.1)) (fun s => [(0, .pointer (some ⟨b, 0, none⟩)), (5, .int .i64 ((Q.length : Int) - (s.2.length : Int))), (10, .slice a2 xs.length c2), (11, .int .i64 xs.length), (12, .int .i64 ((s.1 : Nat) : Int))]) (fun s => sepL [isAl b now tn s.2, F]) (fun s => xs.length - s.1) ⟨0, Q⟩ ⟨Nat.zero_le _, rfl⟩ ⟨rfl, congrArg (Value.int .i64) (Int.sub_self _).symm, rfl, rfl, rfl, trivial⟩ (ent_take 0 rfl (ent_take 0 rfl (ent_nil _))) ?_
  rintro ⟨k, Z⟩ ⟨hk, hZ⟩ ρ0
  dsimp only [updL] at hk hZ ⊢
  refine TC.seq ?_
  refine TC.region ?_
  refine q rfl rfl (lss rfl rfl) ?_
  refine TL.nil (nt ?_)
  refine TC.seq ?_
  first | refine TC.condD rfl (fun hlt => ?_) (fun hlt => ?_) | refine TC.cond rfl (fun hlt => ?_) (fun hlt => ?_)
  · have hkx : k < xs.length := by omega
    obtain ⟨x, hxk⟩ : ∃ x, xs[k]? = some x := ⟨xs[k], List.getElem?_eq_getElem hkx⟩
    have hpos : 0 < (ints xs).length := by omega
    have htk : clrA Q (xs.take (k + 1)) = offA Z x := by rw [List.take_add_one, hxk, Option.toList, clrA_snoc, hZ]
    have hZl : Z.length ≤ Q.length := by rw [hZ]; exact (clrA_sub Q _).length_le
    refine TC.skip (nt ?_)
    refine TC.seq ?_
    refine TC.block ?_
    refine TC.seq ?_
    refine TC.region ?_
    first | refine q rfl rfl (ixS 3 1 rfl rfl rfl (by omega) (by first | assumption | (simp [ints_length] <;> omega))) ?_ | refine q rfl rfl (ixJ 3 1 rfl rfl rfl (by omega) (by omega) (by first | assumption | (simp [ints_length] <;> omega))) ?_ | refine q rfl rfl (ix 3 1 rfl rfl rfl (by omega) (by omega) rfl) ?_
    first | refine q rfl rfl (ld rfl rfl rfl) ?_ | refine q rfl rfl (ldS rfl rfl (ints_get hxk)) ?_ | refine q rfl rfl (ldS rfl rfl rfl) ?_
    refine q rfl rfl (asg (v := .int _ _) rfl) ?_
    refine TL.nil (nt ?_)
    refine TC.seq ?_
    refine TC.seq ?_
    refine TC.open 0 rfl (fun x0 hx0 => ?_)
    obtain ⟨H, n, f, ad, cap, wb, m⟩ := x0
    have hA := hx0
    change TC _ _ _ _ _ _ _ (sepL [_, _, _, _])
    dsimp only at hA ⊢
    have hHn := hA.n
    have hnQ := hA.len
    have hel := ents_length H
    refine TC.region ?_
    refine q rfl rfl (mv (v := .pointer _) rfl) ?_
    refine q rfl rfl (eqNil rfl rfl rfl) ?_
    refine TL.nil (nt ?_)
    refine TC.condF rfl ?_
    by_cases hy : hasA Z x
    · obtain ⟨j, hj, hid, hf⟩ := hA.yes hy
      obtain ⟨n, rfl⟩ : ∃ z, n = z + 1 := ⟨n - 1, by omega⟩
      have hol := off_length hy hA.nd
      refine TC.skip (nt ?_)
      refine TC.seq ?_
      refine TC.region ?_
      refine q rfl rfl (mv (v := .pointer _) rfl) ?_
      first | refine q rfl rfl (nc rfl) ?_ | refine q rfl rfl (ncF rfl) ?_ | refine q rfl rfl (ncS rfl (by first | assumption | (simp [ints_length] <;> omega))) ?_
      first | refine q rfl rfl (fa 3 rfl rfl) ?_ | refine q rfl rfl (faS 3 rfl rfl (by first | assumption | (simp [ints_length] <;> omega))) ?_
      first | refine q rfl rfl (ld rfl rfl rfl) ?_ | refine q rfl rfl (ldS rfl rfl (ints_get hxk)) ?_ | refine q rfl rfl (ldS rfl rfl rfl) ?_
      refine q rfl rfl (mv (v := .int _ _) rfl) ?_
      refine q rfl rfl (luFO 3 3 rfl rfl (KL.int rfl) rfl rfl) ?_
      rw [hf]
      refine q rfl rfl (mv (v := .tuple _) rfl) ?_
      refine q rfl rfl (pu (v := .int _ _) (fun _ => rfl)) ?_
      refine q rfl rfl (pu (v := .bool _) (fun _ => rfl)) ?_
      refine q rfl rfl (asg (v := .int _ _) rfl) ?_
      refine q rfl rfl (asg (v := .bool _) rfl) ?_
      refine TL.nil (nt ?_)
      refine TC.seq ?_
      refine TC.region ?_
      refine q rfl rfl (mv (v := .bool _) rfl) ?_
      refine TL.nil (nt ?_)
      refine TC.condT rfl ?_
      refine TC.seq ?_
      refine TC.region ?_
      refine q rfl rfl (mv (v := .pointer _) rfl) ?_
      refine q rfl rfl (mv (v := .int _ _) rfl) ?_
      refine e rfl ?_
      refine cl (cut_ok b now tn H ad n cap wb m f j hHn (by omega) (by omega) hA.hp hA.wh hA.ndH) rfl (picked_cons 0 rfl (picked_cons 0 rfl (picked_cons 0 rfl (picked_nil _)))) trivial ?_
      intro ⟨H4, f4, m4⟩ ⟨hl4, hh4, hw4, hp4⟩
      change TL _ _ _ _ _ _ _ _ (sepL [_, _, _, _])
      dsimp only at hl4 hh4 hw4 hp4 ⊢
      refine TL.nil (nt ?_)
      refine TC.region ?_
      refine q rfl rfl (mv (v := .int _ _) rfl) ?_
      first | refine q rfl rfl (addI rfl rfl (by omega) (by omega)) ?_ | refine q rfl rfl (add rfl rfl rfl) ?_
      refine q rfl rfl (asg (v := .int _ _) rfl) ?_
      refine TL.nil (nb (nt ?_))
      refine TC.region ?_
      first | refine q rfl rfl (addI rfl rfl (by omega) (by omega)) ?_ | refine q rfl rfl (add rfl rfl rfl) ?_
      refine q rfl rfl (mv (v := .int _ _) rfl) ?_
      refine TL.nil (nt ?_)
      exact ⟨rfl, ⟨k + 1, offA Z x⟩, ⟨by dsimp only; omega, htk.symm⟩, (by dsimp only; omega), ⟨rfl, congrArg (Value.int .i64) (by dsimp only; omega), rfl, rfl, rfl, trivial⟩, (ent_close ⟨H4, n, f4, ad, cap, wb, m4⟩ (hA.off hid hl4 hh4 hw4 hp4) (ent_take 0 rfl (ent_take 0 rfl (ent_take 0 rfl (ent_take 0 rfl (ent_nil _))))))⟩
    · have hf := hA.no hy
      have hon := off_none hy
      refine TC.skip (nt ?_)
      refine TC.seq ?_
      refine TC.region ?_
      refine q rfl rfl (mv (v := .pointer _) rfl) ?_
      first | refine q rfl rfl (nc rfl) ?_ | refine q rfl rfl (ncF rfl) ?_ | refine q rfl rfl (ncS rfl (by first | assumption | (simp [ints_length] <;> omega))) ?_
      first | refine q rfl rfl (fa 3 rfl rfl) ?_ | refine q rfl rfl (faS 3 rfl rfl (by first | assumption | (simp [ints_length] <;> omega))) ?_
      first | refine q rfl rfl (ld rfl rfl rfl) ?_ | refine q rfl rfl (ldS rfl rfl (ints_get hxk)) ?_ | refine q rfl rfl (ldS rfl rfl rfl) ?_
      refine q rfl rfl (mv (v := .int _ _) rfl) ?_
      refine q rfl rfl (luFO 3 3 rfl rfl (KL.int rfl) rfl rfl) ?_
      rw [hf]
      refine q rfl rfl (mv (v := .tuple _) rfl) ?_
      refine q rfl rfl (pu (v := .int _ _) (fun _ => rfl)) ?_
      refine q rfl rfl (pu (v := .bool _) (fun _ => rfl)) ?_
      refine q rfl rfl (asg (v := .int _ _) rfl) ?_
      refine q rfl rfl (asg (v := .bool _) rfl) ?_
      refine TL.nil (nt ?_)
      refine TC.seq ?_
      refine TC.region ?_
      refine q rfl rfl (mv (v := .bool _) rfl) ?_
      refine TL.nil (nt ?_)
      refine TC.condF rfl ?_
      refine TC.skip (nb (nt ?_))
      refine TC.region ?_
      first | refine q rfl rfl (addI rfl rfl (by omega) (by omega)) ?_ | refine q rfl rfl (add rfl rfl rfl) ?_
      refine q rfl rfl (mv (v := .int _ _) rfl) ?_
      refine TL.nil (nt ?_)
      exact ⟨rfl, ⟨k + 1, Z⟩, ⟨by dsimp only; omega, by dsimp only; rw [htk, hon]⟩, (by dsimp only; omega), ⟨rfl, rfl, rfl, rfl, rfl, trivial⟩, (ent_close ⟨H, n, f, ad, cap, wb, m⟩ hA (ent_take 0 rfl (ent_take 0 rfl (ent_take 0 rfl (ent_take 0 rfl (ent_nil _))))))⟩
  · obtain rfl : k = xs.length := by omega
    rw [List.take_length] at hZ
    subst hZ
    refine TC.exit (et (et (eb (nt ?_))))
    refine TC.seq ?_
    refine TC.region ?_
    refine q rfl rfl (mv (v := .int _ _) rfl) ?_
    refine q rfl rfl (asg (v := .int _ _) rfl) ?_
    refine TL.nil (nt ?_)
    refine TC.ret ?_
    exact Ret.i () [_] ⟨rfl, trivial⟩ rfl trivial (ent_take 0 rfl (ent_take 0 rfl (ent_nil _)))

set_option maxRecDepth 4000 in
theorem clear_nil (a2 : Option Addr) (c2 : Nat) (xs : List Int) (hx : 0 < xs.length) : FSpec Try.prog 56 [.pointer none, .slice a2 xs.length c2] (fun F => ∃ E, RdS F E a2 (ints xs)) [] (fun _ : Unit => .int .i64 0) (fun _ => True) (fun _ => []) := by
  refine FSpec.intro (rs := [.tmp 4]) (by kernel_rfl) Try.func56 rfl Try.ntmps56 (by rfl) rfl ?_
  intro F ⟨E, hF⟩
  change TC _ _ _ _ _ _ _ (sepL [_])
  haveI : RdSI F a2 E (ints xs) := ⟨hF⟩
  have hxl := ints_length xs
  obtain ⟨x, hxk⟩ : ∃ x, xs[0]? = some x := ⟨xs[0], List.getElem?_eq_getElem hx⟩
  have hpos : 0 < (ints xs).length := by omega
  refine TC.seq ?_
  refine TC.region ?_
  refine q rfl rfl (asg (v := .int _ _) rfl) ?_
  refine TL.nil (nt ?_)
  refine TC.seq ?_
  refine TC.region ?_
  refine q rfl rfl (asg (v := .int _ _) rfl) ?_
  refine TL.nil (nt ?_)
  refine TC.seq ?_
  refine TC.seq ?_
  refine TC.region ?_
  refine q rfl rfl (mv (v := .slice _ _ _) rfl) ?_
  refine q rfl rfl (len 3 1 rfl rfl) ?_
  refine q rfl rfl (mv (v := .int _ _) rfl) ?_
  refine TL.nil (nt ?_)
  refine TC.block ?_
  refine TC.loop (ι := Unit) (fun s => True) (fun s => [(0, .pointer none), (5, .int .i64 0), (10, .slice a2 xs.length c2), (11, .int .i64 xs.length), (12, .int .i64 0)]) (fun s => sepL [F]) (fun s => 0) () trivial ⟨rfl, rfl, rfl, rfl, rfl, trivial⟩ (ent_take 0 rfl (ent_nil _)) ?_
  rintro _ _ ρ0
  dsimp only [updL]
  refine TC.seq ?_
  refine TC.region ?_
  refine q rfl rfl (lss rfl rfl) ?_
  refine TL.nil (nt ?_)
  refine TC.seq ?_
  refine TC.condD rfl (fun hc1 => ?_) (fun hc1 => absurd (by omega) hc1)
  refine TC.skip (nt ?_)
  refine TC.seq ?_
  refine TC.block ?_
  refine TC.seq ?_
  refine TC.region ?_
  first | refine q rfl rfl (ixS 3 1 rfl rfl rfl (by omega) (by first | assumption | (simp [ints_length] <;> omega))) ?_ | refine q rfl rfl (ixJ 3 1 rfl rfl rfl (by omega) (by omega) (by first | assumption | (simp [ints_length] <;> omega))) ?_ | refine q rfl rfl (ix 3 1 rfl rfl rfl (by omega) (by omega) rfl) ?_
  first | refine q rfl rfl (ld rfl rfl rfl) ?_ | refine q rfl rfl (ldS rfl rfl (ints_get hxk)) ?_ | refine q rfl rfl (ldS rfl rfl rfl) ?_
  refine q rfl rfl (asg (v := .int _ _) rfl) ?_
  refine TL.nil (nt ?_)
  refine TC.seq ?_
  refine TC.seq ?_
  refine TC.region ?_
  refine q rfl rfl (mv (v := .pointer _) rfl) ?_
  refine q rfl rfl (eqNil rfl rfl rfl) ?_
  refine TL.nil (nt ?_)
  refine TC.condT rfl ?_
  refine TC.exit (et (en rfl (et (et (eb (nt ?_))))))
  refine TC.seq ?_
  refine TC.region ?_
  refine q rfl rfl (mv (v := .int _ _) rfl) ?_
  refine q rfl rfl (asg (v := .int _ _) rfl) ?_
  refine TL.nil (nt ?_)
  refine TC.ret ?_
  exact Ret.i () [_] ⟨rfl, trivial⟩ rfl trivial (ent_take 0 rfl (ent_nil _))

set_option maxRecDepth 4000 in
theorem tick_ok (b : Nat) (now tn : Int) (Q : List En) (hb : (0 ≤ now ∧ now ≤ 1000000000000) ∧ (0 ≤ tn ∧ tn ≤ 1000000000000) ∧ Q.length ≤ 500000) (ht : ∀ e ∈ Q, now < e.at_ ∧ e.at_ ≤ 2000000000000) : FSpec Try.prog 54 [.pointer (some ⟨b, 0, none⟩)] noRd [isAl b now tn Q] (fun y : Option Addr × Nat => .slice y.1 (ids (dueA (now + 1) Q)).length y.2) (fun _ => True) (fun y => [slc 3 1 y.1 (ids (dueA (now + 1) Q)).length y.2 (ints (ids (dueA (now + 1) Q))), isAl b (now + 1) tn (restA (now + 1) Q)]) := by
  refine FSpec.intro (rs := [.tmp 2]) (by kernel_rfl) Try.func54 rfl Try.ntmps54 (by rfl) rfl ?_
  intro F _
  change TC _ _ _ _ _ _ _ (sepL [_, _])
  refine TC.seq ?_
  refine TC.region ?_
  refine q rfl rfl (asg (v := .slice _ _ _) rfl) ?_
  refine TL.nil (nt ?_)
  refine TC.seq ?_
  refine TC.region ?_
  refine q rfl rfl (asg (v := .slice _ _ _) rfl) ?_
  refine TL.nil (nt ?_)
  refine TC.seq ?_
  refine TC.seq ?_
  refine TC.region ?_
  refine q rfl rfl (mv (v := .pointer _) rfl) ?_
  refine q rfl rfl (eqNil rfl rfl rfl) ?_
  refine TL.nil (nt ?_)
  refine TC.condF rfl ?_
  refine TC.skip (nt ?_)
  refine TC.seq ?_
  refine TC.open 0 rfl (fun x0 hx0 => ?_)
  obtain ⟨H, n, f, ad, cap, wb, m⟩ := x0
  have hA := hx0
  change TC _ _ _ _ _ _ _ (sepL [_, _, _, _])
  dsimp only at hA ⊢
  refine TC.region ?_
  refine q rfl rfl (mv (v := .pointer _) rfl) ?_
  first | refine q rfl rfl (nc rfl) ?_ | refine q rfl rfl (ncF rfl) ?_ | refine q rfl rfl (ncS rfl (by first | assumption | (simp [ints_length] <;> omega))) ?_
  first | refine q rfl rfl (fa 0 rfl rfl) ?_ | refine q rfl rfl (faS 0 rfl rfl (by first | assumption | (simp [ints_length] <;> omega))) ?_
  first | refine q rfl rfl (ld rfl rfl rfl) ?_ | refine q rfl rfl (ldS rfl rfl rfl) ?_
  first | refine q rfl rfl (addI rfl rfl (by omega) (by omega)) ?_ | refine q rfl rfl (add rfl rfl rfl) ?_
  first | refine q rfl rfl (nc rfl) ?_ | refine q rfl rfl (ncF rfl) ?_ | refine q rfl rfl (ncS rfl (by first | assumption | (simp [ints_length] <;> omega))) ?_
  first | refine q rfl rfl (fa 0 rfl rfl) ?_ | refine q rfl rfl (faS 0 rfl rfl (by first | assumption | (simp [ints_length] <;> omega))) ?_
  refine e0 ?_
  refine st (v := .int _ _) (vs := [_]) 1 rfl rfl rfl rfl rfl rfl (Nat.le_of_ble_eq_true rfl) rfl ?_
  refine TL.nil (nt ?_)
  refine TC.seq ?_
  refine TC.block ?_
  refine TC.loop (ι := List En × List Int × Option Addr × Nat) (fun s => s.1.Sublist Q ∧ s.2.1 ++ ids (dueA (now + 1) s.1) = ids (dueA (now + 1) Q) ∧ restA (now + 1) s.1 = restA (now + 1) Q) (fun s => [(0, .pointer (some ⟨b, 0, none⟩)), (3, .slice s.2.2.1 s.2.1.length s.2.2.2)]) (fun s => sepL [slc 3 1 s.2.2.1 s.2.1.length s.2.2.2 (ints s.2.1), isAl b (now + 1) tn s.1, F]) (fun s => s.1.length) ⟨Q, [], none, 0⟩ ⟨List.Sublist.refl _, rfl, rfl⟩ ⟨rfl, rfl, trivial⟩ ((slc_nil 3 1 _).trans (ent_takeE 0 rfl (by rfl) (ent_close ⟨H, n, f, ad, cap, wb, m⟩ hA (ent_take 0 rfl (ent_take 0 rfl (ent_take 0 rfl (ent_take 0 rfl (ent_nil _)))))))) ?_
  rintro ⟨Z, o, oa, oc⟩ ⟨hs, ho, hr⟩ ρ0
  dsimp only [updL] at hs ho hr ⊢
  have hZl := hs.length_le
  have hol := congrArg List.length ho
  rw [List.length_append] at hol
  have hdl : (ids (dueA (now + 1) Q)).length ≤ Q.length := by rw [ids, List.length_map]; exact List.length_filter_le _ _
  clear hA
  refine TC.open 1 rfl (fun x0 hx0 => ?_)
  obtain ⟨H, n, f, ad, cap, wb, m⟩ := x0
  have hA := hx0
  change TC _ _ _ _ _ _ _ (sepL [_, _, _, _, _])
  dsimp only at hA ⊢
  have hHn := hA.n
  have hnQ := hA.len
  have hel := ents_length H
  refine TC.seq ?_
  refine TC.seq ?_
  refine TC.draw _ [] [(0, false), (1, false), (2, false), (3, false), (4, false), (5, false), (6, false), (7, false), (8, false), (9, false), (10, false), (11, false), (12, false), (13, false), (14, false), (15, false), (16, false), (17, false), (18, false), (19, false), (20, false)] (by kernel_rfl) (by kernel_rfl) (ent.refl _) ?_
  refine dq rfl rfl rfl (mv (v := .pointer _) rfl) ?_
  first | refine dq rfl rfl rfl (nc rfl) ?_ | refine dq rfl rfl rfl (ncF rfl) ?_ | refine dq rfl rfl rfl (ncS rfl (by first | assumption | (simp [ints_length] <;> omega))) ?_
  first | refine dq rfl rfl rfl (fa 2 rfl rfl) ?_ | refine dq rfl rfl rfl (faS 2 rfl rfl (by first | assumption | (simp [ints_length] <;> omega))) ?_
  first | refine dq rfl rfl rfl (ld rfl rfl rfl) ?_ | refine dq rfl rfl rfl (ldS rfl rfl rfl) ?_
  refine dq rfl rfl rfl (len 117 3 rfl rfl) ?_
  refine dq rfl rfl rfl (gtr rfl rfl) ?_
  refine dq rfl rfl rfl (mv (v := .bool _) rfl) ?_
  refine TD.split 19 rfl (fun h0 => ?_) (fun h0 => ?_)
  · have h0 := of_decide_eq_true h0
    have hg := gE_get (show 0 < H.length by omega)
    have hpl : 0 < (ents H).length := by omega
    refine dg rfl rfl rfl rfl (mv (v := .pointer _) rfl) ?_
    first | refine dg rfl rfl rfl rfl (nc rfl) ?_ | refine dg rfl rfl rfl rfl (ncF rfl) ?_ | refine dg rfl rfl rfl rfl (ncS rfl (by first | assumption | (simp [ints_length] <;> omega))) ?_
    first | refine dg rfl rfl rfl rfl (fa 2 rfl rfl) ?_ | refine dg rfl rfl rfl rfl (faS 2 rfl rfl (by first | assumption | (simp [ints_length] <;> omega))) ?_
    first | refine dg rfl rfl rfl rfl (ld rfl rfl rfl) ?_ | refine dg rfl rfl rfl rfl (ldS rfl rfl (flat_ld enC_sz hg 0 (by omega) rfl)) ?_ | refine dg rfl rfl rfl rfl (ldS rfl rfl rfl) ?_
    first | refine dg rfl rfl rfl rfl (ixS 117 3 rfl rfl rfl (by omega) (by first | assumption | (simp [ints_length] <;> omega))) ?_ | refine dg rfl rfl rfl rfl (ixJ 117 3 rfl rfl rfl (by omega) (by omega) (by first | assumption | (simp [ints_length] <;> omega))) ?_ | refine dg rfl rfl rfl rfl (ix 117 3 rfl rfl rfl (by omega) (by omega) rfl) ?_
    first | refine dg rfl rfl rfl rfl (fa 0 rfl rfl) ?_ | refine dg rfl rfl rfl rfl (faS 0 rfl rfl (by first | assumption | (simp [ints_length] <;> omega))) ?_
    first | refine dg rfl rfl rfl rfl (fa 0 rfl rfl) ?_ | refine dg rfl rfl rfl rfl (faS 0 rfl rfl (by first | assumption | (simp [ints_length] <;> omega))) ?_
    first | refine dg rfl rfl rfl rfl (ld rfl rfl rfl) ?_ | refine dg rfl rfl rfl rfl (ldS rfl rfl (flat_ld enC_sz hg 0 (by omega) rfl)) ?_ | refine dg rfl rfl rfl rfl (ldS rfl rfl rfl) ?_
    refine dg rfl rfl rfl rfl (mv (v := .pointer _) rfl) ?_
    first | refine dg rfl rfl rfl rfl (nc rfl) ?_ | refine dg rfl rfl rfl rfl (ncF rfl) ?_ | refine dg rfl rfl rfl rfl (ncS rfl (by first | assumption | (simp [ints_length] <;> omega))) ?_
    first | refine dg rfl rfl rfl rfl (fa 0 rfl rfl) ?_ | refine dg rfl rfl rfl rfl (faS 0 rfl rfl (by first | assumption | (simp [ints_length] <;> omega))) ?_
    first | refine dg rfl rfl rfl rfl (ld rfl rfl rfl) ?_ | refine dg rfl rfl rfl rfl (ldS rfl rfl (flat_ld enC_sz hg 0 (by omega) rfl)) ?_ | refine dg rfl rfl rfl rfl (ldS rfl rfl rfl) ?_
    refine dg rfl rfl rfl rfl (leq rfl rfl) ?_
    first | refine dq rfl rfl rfl (pkT (v := .bool _) rfl rfl) ?_ | refine dq rfl rfl rfl (pkF (v := .bool _) rfl rfl) ?_
    refine TD.nil (nt ?_)
    first | refine TC.condD rfl (fun hd => ?_) (fun hd => ?_) | refine TC.cond rfl (fun hd => ?_) (fun hd => ?_)
    · obtain ⟨d1, d2⟩ := due_step hA (by omega) hd (fun a ha => by have := ht a (hs.subset ha); omega)
      obtain ⟨n, rfl⟩ : ∃ z, n = z + 1 := ⟨n - 1, by omega⟩
      have hofl := off_length ⟨_, hA.pm.mem_iff.1 (gE_mem (show 0 < H.length by omega)), rfl⟩ hA.nd
      refine TC.skip (nt ?_)
      refine TC.block ?_
      refine TC.region ?_
      refine q rfl rfl (mv (v := .slice _ _ _) rfl) ?_
      refine q rfl rfl (mv (v := .pointer _) rfl) ?_
      refine e rfl ?_
      refine cl (cut_ok b (now + 1) tn H ad n cap wb m f 0 hHn (by omega) (by omega) hA.hp hA.wh hA.ndH) rfl (picked_cons 0 rfl (picked_cons 0 rfl (picked_cons 0 rfl (picked_nil _)))) trivial ?_
      intro ⟨H4, f4, m4⟩ ⟨hl4, hh4, hw4, hp4⟩
      change TL _ _ _ _ _ _ _ _ (sepL [_, _, _, _, _])
      dsimp only at hl4 hh4 hw4 hp4 ⊢
      refine q rfl rfl (pu (v := .int _ _) (fun _ => rfl)) ?_
      refine e rfl ?_
      refine bs (cs := [.int _ _]) rfl ?_
      intro b4
      have hdl1 := congrArg List.length d1
      rw [List.length_cons] at hdl1
      rw [ids, List.length_map] at hol
      refine e rfl ?_
      refine ap 8 rfl rfl rfl rfl rfl (Nat.le_of_ble_eq_true rfl) (show _ = ints [(gE H 0).id] from rfl) rfl (by omega) (by simp only [maxLen]; omega) ?_
      intro ad2 cap2
      refine q rfl rfl (asg (v := .slice _ _ _) rfl) ?_
      refine TL.nil (nb (nt ?_))
      exact ⟨rfl, ⟨offA Z (gE H 0).id, o ++ [(gE H 0).id], ad2, cap2⟩, ⟨List.filter_sublist.trans hs, by dsimp only; rw [← ho, d1]; simp [ids], by dsimp only; rw [← hr, d2]⟩, (by dsimp only; omega), ⟨rfl, congrArg (fun n => Value.slice _ n _) (by simp), trivial⟩, (ent_takeE 0 rfl (by simp [ints]) (ent_close ⟨H4, n, f4, ad, cap, wb, m4⟩ (hA.off rfl hl4 hh4 hw4 hp4) (ent_take 1 rfl (ent_take 1 rfl (ent_take 1 rfl (ent_take 1 rfl (ent_nil _)))))))⟩
    · have hdn := due_none (t := now + 1) hA (.inr hd)
      obtain ⟨d1, d2⟩ := hdn
      rw [d1] at ho
      rw [ids, List.map_nil, List.append_nil] at ho
      rw [d2] at hr
      refine TC.exit (et (et (eb (nt ?_))))
      refine TC.seq ?_
      refine TC.region ?_
      refine q rfl rfl (mv (v := .slice _ _ _) rfl) ?_
      refine q rfl rfl (asg (v := .slice _ _ _) rfl) ?_
      refine TL.nil (nt ?_)
      refine TC.ret ?_
      exact Ret.i ⟨oa, oc⟩ [_] ⟨rfl, trivial⟩ (by rw [← ho]; rfl) trivial (ent_takeE 3 rfl (by rw [← ho]) (ent_close ⟨H, n, f, ad, cap, wb, m⟩ (by rw [← hr]; exact hA) (ent_take 0 rfl (ent_take 0 rfl (ent_take 0 rfl (ent_take 0 rfl (ent_nil _)))))))
  · have h0 := of_decide_eq_false h0
    have hdn := due_none (t := now + 1) hA (.inl (by omega))
    refine dk rfl rfl rfl rfl ?_
    refine dk rfl rfl rfl rfl ?_
    refine dk rfl rfl rfl rfl ?_
    refine dk rfl rfl rfl rfl ?_
    refine dk rfl rfl rfl rfl ?_
    refine dk rfl rfl rfl rfl ?_
    refine dk rfl rfl rfl rfl ?_
    refine dk rfl rfl rfl rfl ?_
    refine dk rfl rfl rfl rfl ?_
    refine dk rfl rfl rfl rfl ?_
    refine dk rfl rfl rfl rfl ?_
    refine dk rfl rfl rfl rfl ?_
    refine dk rfl rfl rfl rfl ?_
    first | refine dq rfl rfl rfl (pkT (v := .bool _) rfl rfl) ?_ | refine dq rfl rfl rfl (pkF (v := .bool _) rfl rfl) ?_
    refine TD.nil (nt ?_)
    refine TC.condF rfl ?_
    obtain ⟨d1, d2⟩ := hdn
    rw [d1] at ho
    rw [ids, List.map_nil, List.append_nil] at ho
    rw [d2] at hr
    refine TC.exit (et (et (eb (nt ?_))))
    refine TC.seq ?_
    refine TC.region ?_
    refine q rfl rfl (mv (v := .slice _ _ _) rfl) ?_
    refine q rfl rfl (asg (v := .slice _ _ _) rfl) ?_
    refine TL.nil (nt ?_)
    refine TC.ret ?_
    exact Ret.i ⟨oa, oc⟩ [_] ⟨rfl, trivial⟩ (by rw [← ho]; rfl) trivial (ent_takeE 3 rfl (by rw [← ho]) (ent_close ⟨H, n, f, ad, cap, wb, m⟩ (by rw [← hr]; exact hA) (ent_take 0 rfl (ent_take 0 rfl (ent_take 0 rfl (ent_take 0 rfl (ent_nil _)))))))

set_option maxRecDepth 4000 in
theorem tick_nil  : FSpec Try.prog 54 [.pointer none] noRd [] (fun _ : Unit => .slice none 0 0) (fun _ => True) (fun _ => []) := by
  refine FSpec.intro (rs := [.tmp 2]) (by kernel_rfl) Try.func54 rfl Try.ntmps54 (by rfl) rfl ?_
  intro F _
  change TC _ _ _ _ _ _ _ (sepL [_])
  refine TC.seq ?_
  refine TC.region ?_
  refine q rfl rfl (asg (v := .slice _ _ _) rfl) ?_
  refine TL.nil (nt ?_)
  refine TC.seq ?_
  refine TC.region ?_
  refine q rfl rfl (asg (v := .slice _ _ _) rfl) ?_
  refine TL.nil (nt ?_)
  refine TC.seq ?_
  refine TC.seq ?_
  refine TC.region ?_
  refine q rfl rfl (mv (v := .pointer _) rfl) ?_
  refine q rfl rfl (eqNil rfl rfl rfl) ?_
  refine TL.nil (nt ?_)
  refine TC.condT rfl ?_
  refine TC.seq ?_
  refine TC.region ?_
  refine q rfl rfl (asg (v := .slice _ _ _) rfl) ?_
  refine TL.nil (nt ?_)
  refine TC.ret (rt ?_)
  exact Ret.i () [_] ⟨rfl, trivial⟩ rfl trivial (ent_take 0 rfl (ent_nil _))

end Go.Proofs.Ytdfmfhcjnjfjbaa.Al
