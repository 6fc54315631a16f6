/-
  Proved here: what functions of this program compute, each as a contract over symbolic states, under the premises that each theorem names (most lines printed by a program of the prover).
-/
import Derived.Test.YtdfmfhcjnjfjbaaThF
import Derived.Test.YtdfmfhcjnjfjbaaQLibP
namespace Go.Proofs.Ytdfmfhcjnjfjbaa
open Go Go.QM
open Al (En hasA Nd clrA setA offA dueA restA leftA)
open Rd (hasS NdS addS RInv topS runS tickS yieldS rndS)
def cG (cc : Int) (i : Nat) : Bool := decide (IntKind.u16.wrap (BitVec.ofInt IntKind.u16.bits (cc.fdiv (2 ^ min (i : Int).toNat IntKind.u16.bits)) &&& BitVec.ofInt IntKind.u16.bits 1).toNat = 1)
def oG (cc : Int) (j : Nat) : Off := ⟨(j : Int), 7, cG cc j⟩
def rowG (cc : Int) (n k : Nat) : List Off := ((List.range n).drop k).map (oG cc)
/-- Threads 0 to n - 1 have sent to 100; k were taken; a waits for an answer. -/
structure GJ (T : TS) (cc : Int) (n k : Nat) (a : Int) (N : Nat) : Prop where
  g : TG T N
  ids : ∀ x, x ∈ T.m.ids ↔ x = 100 ∨ (0 ≤ x ∧ x < n)
  len : T.m.ids.length = n + 1
  row : T.m.row 100 = rowG cc n k
  rowj : ∀ x, x ≠ 100 → x ∈ T.m.ids → T.m.row x = []
  cl : T.m.cl 100 = a
  ac : a = -1 ∨ (0 ≤ a ∧ a < k)
  h : T.m.st 100 = 0
  on : ∀ x ∈ T.m.ids, T.on x = true
  pr : ∀ x ∈ T.m.ids, x ≠ 100 → T.pr x = 1
  st : ∀ x : Int, 0 ≤ x → x < k → x ≠ a → T.m.st x = 0
theorem GJ.up {T : TS} {cc : Int} {n k : Nat} {a : Int} {N M : Nat} (h : GJ T cc n k a N) (hM : N ≤ M) : GJ T cc n k a M := ⟨h.g.up hM, h.ids, h.len, h.row, h.rowj, h.cl, h.ac, h.h, h.on, h.pr, h.st⟩
theorem GJ.mt {T T' : TS} {cc : Int} {n k : Nat} {a : Int} {N M : Nat} (h : GJ T cc n k a N) (hg : TG T' M) (h1 : T'.m = T.m) (h2 : T'.on = T.on) (h3 : T'.pr = T.pr) : GJ T' cc n k a M := by
  refine ⟨hg, ?_, ?_, ?_, ?_, ?_, h.ac, ?_, ?_, ?_, ?_⟩ <;> (try rw [h1]) <;> (try rw [h2]) <;> (try rw [h3])
  · exact h.ids
  · exact h.len
  · exact h.row
  · exact h.rowj
  · exact h.cl
  · exact h.h
  · exact h.on
  · exact h.pr
  · exact h.st
def GA : TS := addL t0 [100]
theorem GA_n : (GA.m.ids.length : Int) - (t0.m.ids.length : Int) = 1 := by kernel_rfl
theorem GA_g : TG GA 0 := TG.zero.adds _ (by decide)
def GB : TS := (startS GA 100 7 1).1
theorem gn_a : startS GA 100 7 1 = (GB, 0) := by kernel_rfl
theorem GJ.start (cc : Int) : GJ GB cc 0 0 (-1) 1 := by
  have hids : GB.m.ids = [100] := by kernel_rfl
  have hg := GA_g.start 100 7 1
  rw [gn_a] at hg
  refine ⟨hg, fun x => ?_, by rw [hids]; rfl, by kernel_rfl, fun x hx hm => ?_, by kernel_rfl, .inl rfl, by kernel_rfl, fun x hm => ?_, fun x hm hx => ?_, fun x h0 h1 => by omega⟩
  · rw [hids, List.mem_singleton]; exact ⟨.inl, fun h => h.resolve_right fun h => by omega⟩
  · rw [hids, List.mem_singleton] at hm; exact absurd hm hx
  · rw [hids, List.mem_singleton] at hm; subst hm; kernel_rfl
  · rw [hids, List.mem_singleton] at hm; exact absurd hm hx
def gN (T : TS) (i : Nat) : TS := addL T [(i : Int)]
def gS (T : TS) (i : Nat) : TS := (startS (gN T i) i 1 1).1
def gO (T : TS) (cc : Int) (i : Nat) : TS := (sendS (gS T i) i 100 7 (cG cc i) 0).1
theorem rowG_snoc (cc : Int) (i : Nat) : rowG cc i 0 ++ [oG cc i] = rowG cc (i + 1) 0 := by simp [rowG, List.range_succ]
theorem GJ.next {T : TS} {cc : Int} {i N : Nat} (h : GJ T cc i 0 (-1) N) (hi : i < 15) : TG (gN T i) N ∧ ((gN T i).m.ids.length : Int) - (T.m.ids.length : Int) = 1 ∧ startS (gN T i) i 1 1 = (gS T i, 0) ∧ TG (gS T i) (N + 1) ∧ sendS (gS T i) i 100 7 (cG cc i) 0 = (gO T cc i, 0) ∧ GJ (gO T cc i) cc (i + 1) 0 (-1) (N + 2) := by
  have hn : ¬ ((i : Int) ∈ T.m.ids ∨ (i : Int) < 0) := fun h2 => by
    rcases h2 with h2 | h2
    · have := (h.ids _).1 h2; omega
    · omega
  have hni : (i : Int) ∉ T.m.ids := fun h2 => hn (.inl h2)
  have hj : joinS T.m i = ⟨T.m.ids ++ [(i : Int)], updI T.m.st i 0, updI T.m.cl i (-1), updI T.m.pn i (-1), updI T.m.row i []⟩ := if_neg hn
  have he : gN T i = { T with m := joinS T.m i, pr := updI T.pr i 0, sl := updI T.sl i 0, on := updI T.on i false } := by
    show addT T i = _
    rw [addT, if_neg hn]
  have hg1 : TG (gN T i) N := h.g.adds _ (by rw [h.len]; simp; omega)
  have hne : (100 : Int) ≠ (i : Int) := by omega
  have hm1 : ∀ x, x ∈ (gN T i).m.ids ↔ x ∈ T.m.ids ∨ x = i := fun x => by rw [he, hj]; simp
  have hv1 : (startS (gN T i) i 1 1).2 = 0 ∧ gS T i = { (gN T i) with S := (gS T i).S, pr := updI (gN T i).pr i 1, sl := updI (gN T i).sl i 1, on := updI (gN T i).on i true } := by
    have hon : ¬ ((gN T i).on i = true) := by rw [he]; show ¬ (updI T.on i false i = true); rw [updI_same]; decide
    have hx : ¬ hasS (gN T i).S (i : Int) := fun h5 => by
      have := ((hg1.p.rdy i).1 h5).1.2.1; exact hon this
    have : startS (gN T i) i 1 1 = ({ (gN T i) with S := (addS (gN T i).S i 1 1).1, pr := updI (gN T i).pr i 1, sl := updI (gN T i).sl i 1, on := updI (gN T i).on i true }, (addS (gN T i).S i 1 1).2) := by
      rw [startS, if_neg (fun h5 => h5 ((hm1 i).2 (.inr rfl))), if_neg (by decide), if_neg hon]
    rw [gS, this, add_yes (by omega) (by decide) (by decide) hx]
    exact ⟨rfl, rfl⟩
  have hg2 := hg1.start i 1 1
  have hp1 : startS (gN T i) i 1 1 = (gS T i, 0) := Prod.ext rfl hv1.1
  rw [hp1] at hg2
  dsimp only at hg2
  have hm2 : (gS T i).m = joinS T.m i := by rw [hv1.2, he]
  have hon2 : (gS T i).on = updI T.on i true := by
    rw [hv1.2, he]; show updI (updI T.on i false) i true = _
    funext x
    by_cases e : x = i
    · rw [e, updI_same, updI_same]
    · rw [updI_ne e, updI_ne e, updI_ne e]
  have hpr2 : (gS T i).pr = updI T.pr i 1 := by
    rw [hv1.2, he]; show updI (updI T.pr i 0) i 1 = _
    funext x
    by_cases e : x = i
    · rw [e, updI_same, updI_same]
    · rw [updI_ne e, updI_ne e, updI_ne e]
  have hmi : (i : Int) ∈ (gS T i).m.ids := by rw [hm2, hj]; simp
  have hm100 : (100 : Int) ∈ (gS T i).m.ids := by rw [hm2, hj]; exact List.mem_append.2 (.inl ((h.ids _).2 (.inl rfl)))
  have hst : stT (gS T i) i = 0 := by
    rw [stT, if_pos hmi, hon2, updI_same, if_pos rfl, hm2, hj]; exact updI_same _ _ _
  have hsm : (gS T i).m.st i = 0 := by rw [hm2, hj]; exact updI_same _ _ _
  have hv2 : sendS (gS T i) i 100 7 (cG cc i) 0 = (blockS (mS (gS T i) (offS (gS T i).m 100 ⟨i, 7, cG cc i⟩).1) i 0, 0) := by
    rw [sendS, if_neg (fun h5 => h5.elim (fun h6 => h6 hmi) (fun h6 => h6 hm100)), if_neg (fun h5 => h5.elim (fun h6 => hne h6.symm) (by rw [badT]; omega)), if_neg (fun h5 => h5 hst)]
  have hof : (offS (gS T i).m 100 ⟨i, 7, cG cc i⟩).1 = pushS (wtS (gS T i).m i 1 100) 100 ⟨i, 7, cG cc i⟩ := by
    rw [offS, if_neg (fun h5 => h5.elim (fun h6 => h6 hm100) (fun h6 => h6 hmi)), if_neg (fun h6 => hne h6.symm), if_neg (fun h5 => h5 hsm)]
  have hg3 := hg2.send i 100 7 (cG cc i) 0
  have hp2 : sendS (gS T i) i 100 7 (cG cc i) 0 = (gO T cc i, 0) := by rw [gO, hv2]
  rw [hp2] at hg3
  dsimp only at hg3
  have hO : (gO T cc i).m = pushS (wtS (gS T i).m i 1 100) 100 ⟨i, 7, cG cc i⟩ ∧ (gO T cc i).on = (gS T i).on ∧ (gO T cc i).pr = (gS T i).pr := by
    rw [gO, hv2, blockS, if_neg (by decide), hof]; exact ⟨rfl, rfl, rfl⟩
  have hrn : ∀ x, x ≠ (i : Int) → updI T.m.row i [] x = T.m.row x := fun x hx => updI_ne hx
  refine ⟨hg1, ?_, hp1, hg2, hp2, ⟨hg3, fun x => ?_, ?_, ?_, fun x hx hm => ?_, ?_, .inl rfl, ?_, fun x hm => ?_, fun x hm hx => ?_, fun x h0 h1 => by omega⟩⟩
  · rw [he, hj, List.length_append, List.length_singleton]; omega
  · rw [hO.1, hm2, hj]
    show x ∈ T.m.ids ++ [(i : Int)] ↔ _
    rw [List.mem_append, h.ids, List.mem_singleton]; omega
  · rw [hO.1, hm2, hj]
    show (T.m.ids ++ [(i : Int)]).length = _
    rw [List.length_append, h.len]; rfl
  · rw [hO.1, hm2, hj]
    show updI (updI T.m.row i []) 100 (updI T.m.row i [] 100 ++ [⟨i, 7, cG cc i⟩]) 100 = _
    rw [updI_same, updI_ne hne, h.row]; exact rowG_snoc cc i
  · rw [hO.1, hm2, hj] at hm ⊢
    have hm : x ∈ T.m.ids ++ [(i : Int)] := hm
    show updI (updI T.m.row i []) 100 _ x = []
    rw [updI_ne hx]
    by_cases e : x = i
    · rw [e, updI_same]
    · rw [updI_ne e]
      exact h.rowj x hx ((List.mem_append.1 hm).resolve_right fun h5 => e (List.mem_singleton.1 h5))
  · rw [hO.1, hm2, hj]; show updI T.m.cl i (-1) 100 = -1
    rw [updI_ne hne]; exact h.cl
  · rw [hO.1, hm2, hj]; show updI (updI T.m.st i 0) i 1 100 = 0
    rw [updI_ne hne, updI_ne hne]; exact h.h
  · rw [hO.1, hm2, hj] at hm
    have hm : x ∈ T.m.ids ++ [(i : Int)] := hm
    rw [hO.2.1, hon2]
    by_cases e : x = i
    · rw [e, updI_same]
    · rw [updI_ne e]; exact h.on x ((List.mem_append.1 hm).resolve_right fun h5 => e (List.mem_singleton.1 h5))
  · rw [hO.1, hm2, hj] at hm
    have hm : x ∈ T.m.ids ++ [(i : Int)] := hm
    rw [hO.2.2, hpr2]
    by_cases e : x = i
    · rw [e, updI_same]
    · rw [updI_ne e]; exact h.pr x ((List.mem_append.1 hm).resolve_right fun h5 => e (List.mem_singleton.1 h5)) hx
theorem rowG_cons (cc : Int) {n k : Nat} (h : k < n) : rowG cc n k = oG cc k :: rowG cc n (k + 1) := by
  rw [rowG, List.drop_eq_getElem_cons (by simpa using h), List.map_cons, List.getElem_range]; rfl
theorem tells_on (why : Int) : ∀ (l : List Int) (T : TS), (tellS T why l).on = T.on ∧ (tellS T why l).pr = T.pr ∧ (tellS T why l).told = T.told ++ l.map fun x => ⟨x, why⟩
  | [], T => ⟨rfl, rfl, by simp [tellS]⟩
  | x :: l, T => by
    obtain ⟨h1, h2, h3⟩ := tells_on why l (tell1 why T x)
    refine ⟨h1, h2, ?_⟩
    rw [show tellS T why (x :: l) = tellS (tell1 why T x) why l from rfl, h3]
    show (T.told ++ [(⟨x, why⟩ : Tg)]) ++ _ = _
    rw [List.append_assoc]; rfl
theorem takeT1_on (T : TS) (o : Off) (el s id : Int) : (takeT1 T o el s id).on = T.on ∧ (takeT1 T o el s id).pr = T.pr := by
  have key : ∀ (c : Prop) [Decidable c] (T2 : TS) (w x : Int), T2.on = T.on ∧ T2.pr = T.pr → (if c then T2 else tellS T2 w [x]).on = T.on ∧ (if c then T2 else tellS T2 w [x]).pr = T.pr := fun c _ T2 w x h => by
    obtain ⟨f1, f2, _⟩ := tells_on w [x] T2
    split
    · exact h
    · exact ⟨f1.trans h.1, f2.trans h.2⟩
  have h1 := key (o.cl = true) T 0 o.fr ⟨rfl, rfl⟩
  have h2 := key (el = -1) _ 13 el h1
  rw [takeT1]
  split
  · obtain ⟨f1, f2, _⟩ := tells_on 0 [id] (if el = -1 then if o.cl = true then T else tellS T 0 [o.fr] else tellS (if o.cl = true then T else tellS T 0 [o.fr]) 13 [el])
    exact ⟨f1.trans h2.1, f2.trans h2.2⟩
  · exact h2
def gT (T : TS) : TS := (takeT T 100).1
theorem GJ.take {T : TS} {cc : Int} {n k : Nat} {a : Int} {N : Nat} (h : GJ T cc n k a N) (hk : k < n) (hn : n ≤ 15) : takeT T 100 = (gT T, oG cc k, 0) ∧ GJ (gT T) cc n (k + 1) (if cG cc k = true then (k : Int) else a) (N + 1) := by
  have hm : (100 : Int) ∈ T.m.ids := (h.ids _).2 (.inl rfl)
  have hs : stT T 100 = 0 := by rw [stT, if_pos hm, if_pos (h.on _ hm), h.h]
  have hr := h.row
  rw [rowG_cons cc hk] at hr
  have hst : (takeS T.m 100).2 = (oG cc k, (if cG cc k = true then a else -1), 0) ∧ (takeS T.m 100).1.row = updI T.m.row 100 (rowG cc n (k + 1)) ∧ (takeS T.m 100).1.cl 100 = (if cG cc k = true then (k : Int) else a) := by
    rw [takeS, if_neg (fun h5 => h5 hm), if_neg (fun h5 => h5.1 h.h), hr]
    dsimp only
    rw [show (oG cc k).cl = cG cc k from rfl, show (oG cc k).fr = (k : Int) from rfl, h.cl]
    split
    · refine ⟨rfl, ?_, ?_⟩
      · dsimp only; split <;> rfl
      · dsimp only; split <;> exact updI_same T.m.cl 100 (k : Int)
    · exact ⟨rfl, rfl, h.cl⟩
  obtain ⟨s1, s2, s3⟩ := hst
  have he : (takeS T.m 100).2.2.2 = 0 := by rw [s1]
  obtain ⟨o, r, hr2, ho, f1, f2, f3, f4, f5⟩ := take_form h.g.p.wm hm he
  have ho2 : o = oG cc k := by rw [← ho, s1]
  subst ho2
  have hv : takeT T 100 = (takeT1 (mS T (takeS T.m 100).1) (oG cc k) (takeS T.m 100).2.2.1 (stT T 100) 100, oG cc k, 0) := by
    rw [takeT, if_neg (fun h5 => h5 hm), if_neg (fun h5 => h5.1 hs), if_neg (fun h5 => h5 he), ho]
  have hg := h.g.take 100
  obtain ⟨m1, m2, m3, _⟩ := takeT1_f (mS T (takeS T.m 100).1) (oG cc k) (takeS T.m 100).2.2.1 (stT T 100) 100
  obtain ⟨m4, m5⟩ := takeT1_on (mS T (takeS T.m 100).1) (oG cc k) (takeS T.m 100).2.2.1 (stT T 100) 100
  have hgT : gT T = takeT1 (mS T (takeS T.m 100).1) (oG cc k) (takeS T.m 100).2.2.1 (stT T 100) 100 := by rw [gT, hv]
  have hM : (gT T).m = (takeS T.m 100).1 := by rw [hgT, m1]; rfl
  have hO : (gT T).on = T.on := by rw [hgT, m4]; rfl
  have hPr : (gT T).pr = T.pr := by rw [hgT, m5]; rfl
  have hids : (gT T).m.ids = T.m.ids := by rw [hM, take_ids]
  refine ⟨Prod.ext rfl (by rw [hv]), hg, ?_, ?_, ?_, fun x hx hm2 => ?_, ?_, ?_, ?_, ?_, ?_, fun x h0 h1 h2 => ?_⟩
  · rw [hids]; exact h.ids
  · rw [hids]; exact h.len
  · rw [hM, s2, updI_same]
  · rw [hids] at hm2
    rw [hM, s2, updI_ne hx]; exact h.rowj x hx hm2
  · rw [hM]; exact s3
  · have := h.ac
    split
    · right; omega
    · omega
  · rw [hM]; exact f4
  · rw [hids, hO]; exact h.on
  · rw [hids, hPr]; exact h.pr
  · rw [hM]
    have hx100 : x ≠ 100 := by omega
    have hcl := h.cl
    rcases f5 with ⟨g1, g2, g3, g4⟩ | ⟨g1, g2, g3, g5, g4⟩
    · have g1 : cG cc k = false := g1
      rw [if_neg (by rw [g1]; decide)] at h2
      by_cases e : x = (k : Int)
      · rw [e]; exact g3
      · rw [g4 x hx100 e]; exact h.st x h0 (by omega) h2
    · have g1 : cG cc k = true := g1
      rw [if_pos g1] at h2
      by_cases e : x = a
      · have ha : T.m.cl 100 ≠ -1 := by rw [hcl]; omega
        have := (g5 ha).2.2.2.2
        rw [hcl] at this; rw [e]; exact this
      · rw [g4 x hx100 h2 (by rw [hcl]; exact e)]; exact h.st x h0 (by omega) e
def wG (cc : Int) (n k : Nat) : List Int := ((List.range n).drop k).map fun j : Nat => (j : Int)
theorem rowG_fr (cc : Int) (n k : Nat) : (rowG cc n k).map (·.fr) = wG cc n k := by rw [rowG, wG, List.map_map]; rfl
theorem flat_one_at {β : Type} {f : Int → List β} {c : Int} : ∀ {D : List Int}, D.Nodup → c ∈ D → (∀ x ∈ D, x ≠ c → f x = []) → D.flatMap f = f c
  | [], _, h, _ => by cases h
  | x :: D, hn, h, hf => by
    obtain ⟨h1, h2⟩ := List.nodup_cons.1 hn
    rw [List.flatMap_cons]
    by_cases e : x = c
    · subst e
      have : D.flatMap f = [] := by
        rw [List.flatMap_eq_nil_iff]
        exact fun y hy => hf y (by simp [hy]) fun e => h1 (e ▸ hy)
      rw [this, List.append_nil]
    · rw [hf x (by simp) e, List.nil_append]
      exact flat_one_at h2 ((List.mem_cons.1 h).resolve_left (Ne.symm e)) fun y hy => hf y (by simp [hy])
theorem GJ.gone {T : TS} {cc : Int} {n k : Nat} {a : Int} {N : Nat} (h : GJ T cc n k a N) (g : Int) : (closeS T.m g).2 = goneO (rowG cc n k) (thru g) := by
  show goneC T.m g (sortI T.m.ids) = _
  rw [goneC, flat_one_at (c := 100) ((sortI_perm _).nodup_iff.2 h.g.p.wm.nd) (sortI_mem.2 ((h.ids _).2 (.inl rfl))) (fun x hx hne => by rw [h.rowj x hne (sortI_mem.1 hx)]; rfl), h.row]
theorem gone7 (cc : Int) (n k : Nat) : goneO (rowG cc n k) (thru 7) = wG cc n k := by
  rw [goneO, List.filter_eq_self.2, rowG_fr]
  intro o ho
  obtain ⟨j, _, rfl⟩ := List.mem_map.1 ho; rfl
theorem gone6 (cc : Int) (n k : Nat) : goneO (rowG cc n k) (thru 6) = [] := by
  rw [goneO, List.filter_eq_nil_iff.2, List.map_nil]
  intro o ho
  obtain ⟨j, _, rfl⟩ := List.mem_map.1 ho
  show ¬ (decide ((7 : Int) = 6) = true); decide
def gC (T : TS) (g : Int) : TS := (closeT T g).1
theorem GJ.close6 {T : TS} {cc : Int} {n k : Nat} {a : Int} {N : Nat} (h : GJ T cc n k a N) : closeT T 6 = (gC T 6, 0) ∧ GJ (gC T 6) cc n k a (N + 1) ∧ (gC T 6).told = T.told := by
  have hg := h.gone 6
  rw [gone6] at hg
  have hv : closeT T 6 = (mS T (closeS T.m 6).1, 0) := by rw [closeT, hg]; rfl
  have hC : gC T 6 = mS T (closeS T.m 6).1 := by rw [gC, hv]
  have hrow : ∀ x, x ∈ T.m.ids → (closeS T.m 6).1.row x = T.m.row x := fun x hx => by
    show (if x ∈ sortI T.m.ids then (T.m.row x).filter (notO (thru 6)) else T.m.row x) = _
    rw [if_pos (sortI_mem.2 hx)]
    by_cases e : x = 100
    · rw [e, h.row, List.filter_eq_self]
      intro o ho
      obtain ⟨j, _, rfl⟩ := List.mem_map.1 ho
      show (!decide ((7 : Int) = 6)) = true; decide
    · rw [h.rowj x e hx]; rfl
  have hst : ∀ x, (closeS T.m 6).1.st x = T.m.st x := fun x => by rw [close_st, hg, if_neg List.not_mem_nil]
  have hg2 := h.g.close 6
  rw [show (closeT T 6).1 = gC T 6 from rfl, hC] at hg2
  refine ⟨by rw [hC]; exact hv, ?_, by rw [hC]; rfl⟩
  rw [hC]
  exact ⟨hg2, h.ids, h.len, by rw [show (mS T (closeS T.m 6).1).m = (closeS T.m 6).1 from rfl, hrow 100 ((h.ids _).2 (.inl rfl))]; exact h.row, fun x hx hm => by rw [show (mS T (closeS T.m 6).1).m = (closeS T.m 6).1 from rfl, hrow x hm]; exact h.rowj x hx hm, h.cl, h.ac, by rw [show (mS T (closeS T.m 6).1).m = (closeS T.m 6).1 from rfl, hst]; exact h.h, h.on, h.pr, fun x h0 h1 h2 => by rw [show (mS T (closeS T.m 6).1).m = (closeS T.m 6).1 from rfl, hst]; exact h.st x h0 h1 h2⟩
def tG (n k : Nat) : List Tg := ((List.range n).drop k).map fun j : Nat => ⟨(j : Int), 13⟩
theorem wG_len (cc : Int) (n k : Nat) : (wG cc n k).length = n - k := by simp [wG]
theorem tG_len (n k : Nat) : (tG n k).length = n - k := by simp [tG]
theorem wG_tG (cc : Int) (n k : Nat) : ((wG cc n k).map fun x => (⟨x, 13⟩ : Tg)) = tG n k := by rw [wG, tG, List.map_map]; rfl
theorem GJ.a3 {T : TS} {cc : Int} {n k : Nat} {a : Int} {N : Nat} (h : GJ T cc n k a N) (ha : 0 ≤ a) : a ∈ T.m.ids ∧ T.m.st a = 3 := by
  have hm : (100 : Int) ∈ T.m.ids := (h.ids _).2 (.inl rfl)
  have := h.g.p.wm.cal 100 hm (by rw [h.cl]; omega)
  rw [h.cl] at this
  exact ⟨this.1, this.2.2.1⟩
theorem GJ.close7 {T : TS} {cc : Int} {n k : Nat} {a : Int} {N : Nat} (h : GJ T cc n k a N) (hk : k ≤ n) (ht : T.told = []) : closeT T 7 = (gC T 7, ((n - k : Nat) : Int)) ∧ TG (gC T 7) (N + 1) ∧ (gC T 7).told = tG n k ∧ (0 ≤ a → stT (gC T 7) a = 3) := by
  have hg := h.gone 7
  rw [gone7] at hg
  have hv : closeT T 7 = (tellS (mS T (closeS T.m 7).1) 13 (wG cc n k), ((wG cc n k).length : Int)) := by rw [closeT, hg]
  have hC : gC T 7 = tellS (mS T (closeS T.m 7).1) 13 (wG cc n k) := by rw [gC, hv]
  obtain ⟨f1, f2, f3⟩ := tells_on 13 (wG cc n k) (mS T (closeS T.m 7).1)
  obtain ⟨g1, _⟩ := tells_f (mS T (closeS T.m 7).1) 13 (wG cc n k)
  refine ⟨by rw [hC, hv, wG_len], h.g.close 7, ?_, fun ha => ?_⟩
  · rw [hC, f3, wG_tG]; show T.told ++ _ = _; rw [ht, List.nil_append]
  · obtain ⟨h1, h2⟩ := h.a3 ha
    have hac := h.ac
    rw [hC, stT, g1, f1]
    show (if a ∈ T.m.ids then (if T.on a = true then (closeS T.m 7).1.st a else 4) else -1) = 3
    rw [if_pos h1, if_pos (h.on a h1), close_st, hg, if_neg, h2]
    intro h3
    obtain ⟨j, hj, e⟩ := List.mem_map.1 h3
    obtain ⟨i, hi, e2⟩ := List.getElem_of_mem hj
    rw [List.getElem_drop, List.getElem_range] at e2
    omega
def gR (T : TS) : TS := (removeS T 100).1
theorem GJ.remove {T : TS} {cc : Int} {n k : Nat} {a : Int} {N : Nat} (h : GJ T cc n k a N) (hk : k ≤ n) (hn : n ≤ 15) (ht : T.told = []) : removeS T 100 = (gR T, 0) ∧ TG (gR T) (N + 1) ∧ (gR T).told = (if 0 ≤ a then tG n k ++ [⟨a, 13⟩] else tG n k) ∧
    (Rd.rowR (toldT (gR T)).S 1).length = n ∧ removeS (toldT (gR T)) 100 = (toldT (gR T), 6) := by
  have hm : (100 : Int) ∈ T.m.ids := (h.ids _).2 (.inl rfl)
  have hac := h.ac
  have hcall : (callS T.m 100).1 = T.m := by rw [callS, if_neg (fun h5 => h5 hm), if_pos h.h]
  have hL : (leaveS T.m 100).2.1 = wG cc n k ++ if a ≠ -1 then [a] else [] := by
    rw [leaveS, if_neg (fun h5 => h5 hm)]
    show goneL (callS T.m 100).1 100 = _
    rw [hcall, goneL, h.row, rowG_fr, h.cl]
  have hv : removeS T 100 = (tellS (outS T 100) 13 (leaveS T.m 100).2.1, 0) := if_neg (fun h5 => h5 hm)
  have hR : gR T = tellS (outS T 100) 13 (leaveS T.m 100).2.1 := by rw [gR, hv]
  obtain ⟨f1, f2, f3⟩ := tells_on 13 (leaveS T.m 100).2.1 (outS T 100)
  obtain ⟨g1, _⟩ := tells_f (outS T 100) 13 (leaveS T.m 100).2.1
  have hg : TG (gR T) (N + 1) := h.g.remove 100
  have hids : (gR T).m.ids = T.m.ids.filter fun y => decide (y ≠ 100) := by rw [hR, g1]; exact leave_ids hm
  have hmem : ∀ x, x ∈ (gR T).m.ids ↔ 0 ≤ x ∧ x < n := fun x => by
    rw [hids, List.mem_filter, h.ids]; simp only [decide_eq_true_eq]; omega
  have hlen : (gR T).m.ids.length = n := by
    have h1 := (perm_mem hm)
    obtain ⟨L, hL⟩ := h1
    have h2 := hL.filter fun y => decide (y ≠ 100)
    rw [List.filter_cons_of_neg (by simp)] at h2
    have h3 : L.filter (fun y => decide (y ≠ 100)) = L := List.filter_eq_self.2 fun y hy => by simpa using nd_ne h.g.p.wm.nd hL y hy
    rw [h3] at h2
    rw [hids, h2.length_eq]
    have := hL.length_eq
    rw [h.len] at this; simpa using this.symm
  have hon : ∀ x ∈ (gR T).m.ids, (gR T).on x = true ∧ (gR T).pr x = 1 := fun x hx => by
    have h1 : x ∈ T.m.ids ∧ x ≠ 100 := by rw [hids] at hx; simpa using hx
    rw [hR, f1, f2]; exact ⟨h.on x h1.1, h.pr x h1.1 h1.2⟩
  have hst : ∀ x ∈ (gR T).m.ids, (gR T).m.st x = 0 := fun x hx => by
    have h0 := (hmem x).1 hx
    have h1 : x ∈ T.m.ids ∧ x ≠ 100 := by rw [hids] at hx; simpa using hx
    rw [hR, g1]
    show (leaveS T.m 100).1.st x = 0
    by_cases h2 : x ∈ (leaveS T.m 100).2.1
    · exact (leave_gone h.g.p.wm hm h2).2.2.2
    · rw [leave_st hm h2 h1.2]
      rw [hL] at h2
      have h3 : x ∉ wG cc n k := fun h4 => h2 (List.mem_append.2 (.inl h4))
      have h4 : x ≠ a := fun e => h2 (List.mem_append.2 (.inr (by rw [if_pos (by omega), e]; simp)))
      have h5 : x < k := Decidable.byContradiction fun h5 => h3 (by
        refine List.mem_map.2 ⟨x.toNat, ?_, by omega⟩
        refine List.mem_iff_getElem.2 ⟨x.toNat - k, by simp; omega, ?_⟩
        rw [List.getElem_drop, List.getElem_range]; omega)
      exact h.st x h0.1 h5 h4
  have hSl : (gR T).S.length = n := by
    have hP := hg.p
    have h1 := hP.lenS
    rw [hlen] at h1
    have h2 := nodup_sub_len (l := (gR T).m.ids) (m := (gR T).S.map (·.id)) hP.wm.nd fun x hx => by
      obtain ⟨t, ht, e⟩ := (hP.rdy x).2 ⟨⟨hx, (hon x hx).1, hst x hx⟩, List.not_mem_nil⟩
      exact List.mem_map.2 ⟨t, ht, e⟩
    rw [hlen, List.length_map] at h2
    exact Nat.le_antisymm h1 h2
  refine ⟨Prod.ext rfl (by rw [hv]), hg, ?_, ?_, ?_⟩
  · rw [hR, f3, hL, List.map_append, wG_tG]
    show T.told ++ _ = _
    rw [ht, List.nil_append]
    split
    · rename_i h1; rw [if_pos (by omega)]; rfl
    · rename_i h1; rw [if_neg (by omega)]; simp
  · show (Rd.rowR (gR T).S 1).length = n
    rw [Rd.rowR, if_pos (by decide), Rd.rowA, List.length_map, List.filter_eq_self.2, hSl]
    intro t ht
    have h1 := ((hg.p.rdy t.id).1 ⟨t, ht, rfl⟩).1.1
    have h2 := (hg.p.sp t ht).1
    simp only [decide_eq_true_eq]
    rw [h2]; exact (hon _ h1).2
  · rw [removeS, if_pos]
    intro h1
    have h1 : (100 : Int) ∈ (gR T).m.ids := h1
    have := (hmem _).1 h1; omega
theorem tG_snoc {n k j : Nat} (hj : k ≤ j) (hn : j < n) : (tG n k).take (j - k) ++ [⟨(j : Int), 13⟩] = (tG n k).take (j + 1 - k) := by
  have h1 : j + 1 - k = (j - k) + 1 := by omega
  have h2 : (tG n k)[j - k]? = some ⟨(j : Int), 13⟩ := by
    rw [tG, List.getElem?_map, List.getElem?_drop, show k + (j - k) = j by omega, List.getElem?_range hn]; rfl
  rw [h1, List.take_add_one, h2]; rfl

set_option maxRecDepth 4000 in
set_option maxHeartbeats 4000000 in
theorem gone_ok (n cc kk : Int) (f : Bool) (hn : 0 ≤ n ∧ n ≤ 255) (hkk : 0 ≤ kk ∧ kk ≤ 255) : FSpec Try.prog 7 [.int .u8 n, .int .u16 cc, .int .u8 kk, .bool f] noRd [] (fun _ : Unit => .bool true) (fun _ => True) (fun _ => []) := by
  refine FSpec.intro (rs := [.tmp 8]) (by kernel_rfl) Try.func7 rfl Try.ntmps7 (by rfl) rfl ?_
  intro F _
  change TC _ _ _ _ _ _ _ (sepL [_])
  refine TC.seq ?_
  refine TC.region ?_
  refine q rfl rfl (asg (v := .bool _) rfl) ?_
  refine TL.nil (nt ?_)
  refine TC.seq ?_
  refine TC.seq ?_
  refine TC.region ?_
  refine e rfl ?_
  refine cl alive_ok rfl (picked_nil _) trivial ?_
  intro _ _
  change TL _ _ _ _ _ _ _ _ (sepL [_])
  first | refine q rfl rfl (notD rfl) ?_ | refine q rfl rfl (notB rfl) ?_
  refine TL.nil (nt ?_)
  refine TC.condF rfl ?_
  refine TC.skip (nt ?_)
  refine TC.seq ?_
  refine TC.region ?_
  refine e rfl ?_
  refine cl tnew_ok rfl (picked_nil _) trivial ?_
  intro a _
  change TL _ _ _ _ _ _ _ _ (sepL [_, _])
  refine q rfl rfl (asg (v := .pointer _) rfl) ?_
  refine TL.nil (nt ?_)
  refine TC.seq ?_
  refine TC.region ?_
  refine q rfl rfl (mv (v := .int _ _) rfl) ?_
  first | refine q rfl rfl (conv .u8 .i64 rfl rfl rfl (wi64 (by omega) (by omega))) ?_ | refine q rfl rfl (conv .u8 .i64 rfl rfl rfl rfl) ?_
  first | refine q rfl rfl (remI rfl rfl (by omega) (by omega)) ?_ | refine q rfl rfl (rem rfl rfl (by omega) rfl) ?_
  first | refine q rfl rfl (addI rfl rfl (by omega) (by omega)) ?_ | refine q rfl rfl (add rfl rfl rfl) ?_
  refine q rfl rfl (asg (v := .int _ _) rfl) ?_
  refine TL.nil (nt ?_)
  refine TC.seq ?_
  refine TC.seq ?_
  refine TC.region ?_
  refine q rfl rfl (mv (v := .pointer _) rfl) ?_
  refine e rfl ?_
  refine bs (cs := [.int _ _]) rfl ?_
  intro b1
  have hM : 1 ≤ 1 + n % 15 ∧ 1 + n % 15 ≤ 15 := by omega
  generalize 1 + n % 15 = MI at hM ⊢
  obtain ⟨m, rfl⟩ : ∃ m : Nat, MI = (m : Int) := ⟨MI.toNat, by omega⟩
  have hm1 : 1 ≤ m ∧ m ≤ 15 := by omega
  refine e rfl ?_
  refine cl (tadd_ok a t0 (some ⟨b1, 0, none⟩) _ [100] (by decide) (by decide)) rfl PkL.p ⟨_, RdSI.rd (ad := some ⟨b1, 0, none⟩)⟩ ?_
  intro _ _
  change TL _ _ _ _ _ _ _ _ (sepL [_, _, _])
  rw [show addL t0 [100] = GA from rfl, GA_n]
  have g1 := GA_g
  refine q rfl rfl (neI rfl rfl) ?_
  refine q rfl rfl (mv (v := .bool _) rfl) ?_
  refine TL.known 29 rfl (c := false) (by decide) ?_
  refine qg rfl rfl rfl (mv (v := .pointer _) rfl) ?_
  refine eg rfl rfl ?_
  refine cl (tstart_ok a GA g1.p (g1.tb (by omega)) 100 7 1) rfl PkL.p trivial ?_
  intro _ _
  change TL _ _ _ _ _ _ _ _ (sepL [_, _, _])
  rw [gn_a]
  dsimp only
  refine qg rfl rfl rfl (neI rfl rfl) ?_
  first | refine q rfl rfl (pkT (v := .bool _) rfl rfl) ?_ | refine q rfl rfl (pkF (v := .bool _) rfl rfl) ?_
  refine TL.nil (nt ?_)
  refine TC.condF rfl ?_
  refine TC.skip (nt ?_)
  refine TC.seq ?_
  refine TC.seq ?_
  refine TC.region ?_
  refine q rfl rfl (asg (v := .int _ _) rfl) ?_
  refine TL.nil (nt ?_)
  refine TC.block ?_
  refine TC.loop (ι := Nat × TS) (fun u => u.1 ≤ m ∧ GJ u.2 cc u.1 0 (-1) (1 + 2 * u.1)) (fun u => [(1, .int .u16 cc), (2, .int .u8 kk), (3, .bool f), (9, .pointer (some ⟨a, 0, none⟩)), (10, .int .i64 (m : Int)), (11, .int .i64 ((u.1 : Nat) : Int))]) (fun u => sepL [isT a u.2, F]) (fun u => m - u.1) ⟨0, GB⟩ ⟨Nat.zero_le _, GJ.start cc⟩ ⟨rfl, rfl, rfl, rfl, rfl, rfl, trivial⟩ (by repeat (first | exact ent_nil _ | refine ent_take 0 rfl ?_ | refine ent_take 1 rfl ?_ | refine ent_take 2 rfl ?_ | refine ent_take 3 rfl ?_ | refine ent_take 4 rfl ?_ | refine ent_take 5 rfl ?_ | refine ent_take 6 rfl ?_ | refine ent_take 7 rfl ?_ | refine ent_take 8 rfl ?_ | refine ent_take 9 rfl ?_ | refine ent_take 10 rfl ?_ | refine ent_take 11 rfl ?_ | refine ent_take 12 rfl ?_)) ?_
  rintro ⟨i, T⟩ ⟨hi, hJ⟩ ρ0
  dsimp only [updL] at hi hJ ⊢
  refine TC.seq ?_
  refine TC.seq ?_
  refine TC.region ?_
  refine q rfl rfl (mv (v := .int _ _) rfl) ?_
  refine q rfl rfl (mv (v := .int _ _) rfl) ?_
  refine q rfl rfl (lss rfl rfl) ?_
  refine TL.nil (nt ?_)
  first | refine TC.condD rfl (fun hlt => ?_) (fun hlt => ?_) | refine TC.cond rfl (fun hlt => ?_) (fun hlt => ?_)
  · have hi2 : i < 15 := by omega
    obtain ⟨z1, z2, z3, z4, z5, z6⟩ := hJ.next hi2
    have hil := hJ.len
    refine TC.skip (nt ?_)
    refine TC.seq ?_
    refine TC.block ?_
    refine TC.seq ?_
    refine TC.region ?_
    refine q rfl rfl (mv (v := .pointer _) rfl) ?_
    refine q rfl rfl (mv (v := .int _ _) rfl) ?_
    refine e rfl ?_
    refine bs (cs := [.int _ _]) rfl ?_
    intro b2
    refine e rfl ?_
    refine cl (tadd_ok a T (some ⟨b2, 0, none⟩) _ [(i : Int)] (by simp) (by omega)) rfl PkL.p ⟨_, RdSI.rd (ad := some ⟨b2, 0, none⟩)⟩ ?_
    intro _ _
    change TL _ _ _ _ _ _ _ _ (sepL [_, _, _])
    rw [show addL T [(i : Int)] = gN T i from rfl, z2]
    refine q rfl rfl (neI rfl rfl) ?_
    refine q rfl rfl (mv (v := .bool _) rfl) ?_
    refine TL.known 44 rfl (c := false) (by decide) ?_
    refine qg rfl rfl rfl (mv (v := .pointer _) rfl) ?_
    refine qg rfl rfl rfl (mv (v := .int _ _) rfl) ?_
    refine eg rfl rfl ?_
    refine cl (tstart_ok a (gN T i) z1.p (z1.tb (by omega)) i 1 1) rfl PkL.p trivial ?_
    intro _ _
    change TL _ _ _ _ _ _ _ _ (sepL [_, _, _])
    rw [z3]
    dsimp only
    refine qg rfl rfl rfl (neI rfl rfl) ?_
    first | refine q rfl rfl (pkT (v := .bool _) rfl rfl) ?_ | refine q rfl rfl (pkF (v := .bool _) rfl rfl) ?_
    refine q rfl rfl (mv (v := .bool _) rfl) ?_
    refine TL.known 50 rfl (c := false) (by decide) ?_
    refine qg rfl rfl rfl (mv (v := .pointer _) rfl) ?_
    refine qg rfl rfl rfl (mv (v := .int _ _) rfl) ?_
    refine qg rfl rfl rfl (mv (v := .int _ _) rfl) ?_
    refine qg rfl rfl rfl (mv (v := .int _ _) rfl) ?_
    first | refine qg rfl rfl rfl (conv .i64 .u64 rfl rfl rfl (wu64 (by omega) (by omega))) ?_ | refine qg rfl rfl rfl (conv .i64 .u64 rfl rfl rfl rfl) ?_
    refine qg rfl rfl rfl (shrR rfl rfl (by omega)) ?_
    refine qg rfl rfl rfl (andR rfl rfl rfl) ?_
    refine qg rfl rfl rfl (eqI rfl rfl) ?_
    refine eg rfl rfl ?_
    refine cl (tsend_ok a (gS T i) z4.p (z4.tb (by omega)) i 100 7 (cG cc i) 0) rfl PkL.p trivial ?_
    intro _ _
    change TL _ _ _ _ _ _ _ _ (sepL [_, _, _])
    rw [z5]
    dsimp only
    refine qg rfl rfl rfl (neI rfl rfl) ?_
    first | refine q rfl rfl (pkT (v := .bool _) rfl rfl) ?_ | refine q rfl rfl (pkF (v := .bool _) rfl rfl) ?_
    refine TL.nil (nt ?_)
    refine TC.condF rfl ?_
    refine TC.skip (nb (nt ?_))
    refine TC.region ?_
    refine q rfl rfl (mv (v := .int _ _) rfl) ?_
    first | refine q rfl rfl (addI rfl rfl (by omega) (by omega)) ?_ | refine q rfl rfl (add rfl rfl rfl) ?_
    refine q rfl rfl (asg (v := .int _ _) rfl) ?_
    refine TL.nil (nt ?_)
    exact ⟨rfl, ⟨i + 1, _⟩, ⟨by dsimp only; omega, z6.up (by omega)⟩, (by dsimp only; omega), ⟨rfl, rfl, rfl, rfl, rfl, rfl, trivial⟩, (by repeat (first | exact ent_nil _ | refine ent_take 0 rfl ?_ | refine ent_take 1 rfl ?_ | refine ent_take 2 rfl ?_ | refine ent_take 3 rfl ?_ | refine ent_take 4 rfl ?_ | refine ent_take 5 rfl ?_ | refine ent_take 6 rfl ?_ | refine ent_take 7 rfl ?_ | refine ent_take 8 rfl ?_ | refine ent_take 9 rfl ?_ | refine ent_take 10 rfl ?_ | refine ent_take 11 rfl ?_ | refine ent_take 12 rfl ?_))⟩
  · obtain rfl : i = m := by omega
    have hk : 0 ≤ kk % ((i : Int) + 1) ∧ kk % ((i : Int) + 1) ≤ i := by
      have h1 := Int.emod_nonneg kk (show ((i : Int) + 1) ≠ 0 by omega)
      have h2 := Int.emod_lt_of_pos kk (show (0 : Int) < (i : Int) + 1 by omega)
      omega
    obtain ⟨qn, hq⟩ : ∃ qn : Nat, kk % ((i : Int) + 1) = (qn : Int) := ⟨(kk % ((i : Int) + 1)).toNat, by omega⟩
    have hqi : qn ≤ i := by omega
    refine TC.exit (et (et (eb (nt ?_))))
    refine TC.seq ?_
    refine TC.region ?_
    refine q rfl rfl (asg (v := .int _ _) rfl) ?_
    refine TL.nil (nt ?_)
    refine TC.seq ?_
    refine TC.seq ?_
    refine TC.region ?_
    refine q rfl rfl (asg (v := .int _ _) rfl) ?_
    refine TL.nil (nt ?_)
    refine TC.block ?_
    refine TC.loop (ι := Nat × TS × Int) (fun u => u.1 ≤ qn ∧ GJ u.2.1 cc i u.1 u.2.2 (40 + u.1)) (fun u => [(2, .int .u8 kk), (3, .bool f), (9, .pointer (some ⟨a, 0, none⟩)), (10, .int .i64 (i : Int)), (12, .int .i64 u.2.2), (13, .int .i64 ((u.1 : Nat) : Int))]) (fun u => sepL [isT a u.2.1, F]) (fun u => qn - u.1) ⟨0, T, -1⟩ ⟨Nat.zero_le _, hJ.up (by dsimp only; omega)⟩ ⟨rfl, rfl, rfl, rfl, rfl, rfl, trivial⟩ (by repeat (first | exact ent_nil _ | refine ent_take 0 rfl ?_ | refine ent_take 1 rfl ?_ | refine ent_take 2 rfl ?_ | refine ent_take 3 rfl ?_ | refine ent_take 4 rfl ?_ | refine ent_take 5 rfl ?_ | refine ent_take 6 rfl ?_ | refine ent_take 7 rfl ?_ | refine ent_take 8 rfl ?_ | refine ent_take 9 rfl ?_ | refine ent_take 10 rfl ?_ | refine ent_take 11 rfl ?_ | refine ent_take 12 rfl ?_)) ?_
    rintro ⟨j, W, aa⟩ ⟨hj, hW⟩ ρ0
    dsimp only [updL] at hj hW ⊢
    refine TC.seq ?_
    refine TC.seq ?_
    refine TC.region ?_
    refine q rfl rfl (mv (v := .int _ _) rfl) ?_
    refine q rfl rfl (mv (v := .int _ _) rfl) ?_
    first | refine q rfl rfl (conv .u8 .i64 rfl rfl rfl (wi64 (by omega) (by omega))) ?_ | refine q rfl rfl (conv .u8 .i64 rfl rfl rfl rfl) ?_
    refine q rfl rfl (mv (v := .int _ _) rfl) ?_
    first | refine q rfl rfl (addI rfl rfl (by omega) (by omega)) ?_ | refine q rfl rfl (add rfl rfl rfl) ?_
    first | refine q rfl rfl (remI rfl rfl (by omega) (by omega)) ?_ | refine q rfl rfl (rem rfl rfl (by omega) rfl) ?_
    refine q rfl rfl (lss rfl rfl) ?_
    refine TL.nil (nt ?_)
    rw [hq]
    first | refine TC.condD rfl (fun hlt => ?_) (fun hlt => ?_) | refine TC.cond rfl (fun hlt => ?_) (fun hlt => ?_)
    · have hjq : j < qn := by omega
      have hgW := hW.g
      obtain ⟨z1, z2⟩ := hW.take (by omega) hm1.2
      refine TC.skip (nt ?_)
      refine TC.seq ?_
      refine TC.block ?_
      refine TC.seq ?_
      refine TC.region ?_
      refine q rfl rfl (mv (v := .pointer _) rfl) ?_
      refine e rfl ?_
      refine cl (ttake_ok a W hgW.p (hgW.tb (by omega)) 100 (hgW.tl (by omega))) rfl PkL.p trivial ?_
      intro _ _
      change TL _ _ _ _ _ _ _ _ (sepL [_, _])
      rw [z1]
      dsimp only
      refine q rfl rfl (mv (v := .tuple _) rfl) ?_
      refine q rfl rfl (pu (v := .agg #[_, _, _]) (fun _ => rfl)) ?_
      refine q rfl rfl (pu (v := .int _ _) (fun _ => rfl)) ?_
      refine e rfl ?_
      refine al (l := [.int _ _, .int _ _, .bool _]) rfl rfl ?_
      intro b3
      refine e0 ?_
      refine st (v := .agg #[_, _, _]) (vs := [_, _, _]) 3 rfl rfl rfl rfl rfl rfl (Nat.le_of_ble_eq_true rfl) rfl ?_
      refine q rfl rfl (asg (v := .int _ _) rfl) ?_
      refine TL.nil (nt ?_)
      refine TC.seq ?_
      refine TC.seq ?_
      refine TC.region ?_
      refine q rfl rfl (mv (v := .int _ _) rfl) ?_
      refine q rfl rfl (neI rfl rfl) ?_
      refine q rfl rfl (mv (v := .bool _) rfl) ?_
      refine TL.known 78 rfl (c := false) (by decide) ?_
      first | refine qg rfl rfl rfl (fa 0 rfl rfl) ?_ | refine qg rfl rfl rfl (faS 0 rfl rfl (by first | assumption | (simp [ints_length] <;> omega))) ?_
      first | refine qg rfl rfl rfl (ld rfl rfl rfl) ?_ | refine qg rfl rfl rfl (ldS rfl rfl rfl) ?_
      refine qg rfl rfl rfl (mv (v := .int _ _) rfl) ?_
      refine qg rfl rfl rfl (neI rfl rfl) ?_
      first | refine q rfl rfl (pkT (v := .bool _) rfl rfl) ?_ | refine q rfl rfl (pkF (v := .bool _) rfl rfl) ?_
      refine TL.nil (nt ?_)
      refine TC.condD rfl (fun hc1 => absurd hc1 (fun h9 => h9 rfl)) (fun hc1 => ?_)
      refine TC.skip (nt ?_)
      refine TC.seq ?_
      refine TC.region ?_
      first | refine q rfl rfl (fa 2 rfl rfl) ?_ | refine q rfl rfl (faS 2 rfl rfl (by first | assumption | (simp [ints_length] <;> omega))) ?_
      first | refine q rfl rfl (ld rfl rfl rfl) ?_ | refine q rfl rfl (ldS rfl rfl rfl) ?_
      refine TL.nil (nt ?_)
      cases hc : cG cc j with
      | true => ?_
      | false => ?_
      · rw [if_pos hc] at z2
        refine TC.cond (t := true) (congrArg Value.bool hc) (fun _ => ?_) (fun h9 => by cases h9)
        refine TC.region ?_
        refine q rfl rfl (mv (v := .int _ _) rfl) ?_
        refine q rfl rfl (asg (v := .int _ _) rfl) ?_
        refine TL.nil (nb (nt ?_))
        refine TC.region ?_
        refine q rfl rfl (mv (v := .int _ _) rfl) ?_
        first | refine q rfl rfl (addI rfl rfl (by omega) (by omega)) ?_ | refine q rfl rfl (add rfl rfl rfl) ?_
        refine q rfl rfl (asg (v := .int _ _) rfl) ?_
        refine TL.nil (nt ?_)
        exact ⟨rfl, ⟨j + 1, gT W, (j : Int)⟩, ⟨by dsimp only; omega, z2⟩, (by dsimp only; omega), ⟨rfl, rfl, rfl, rfl, rfl, rfl, trivial⟩, (by repeat (first | exact ent_nil _ | refine ent_take 0 rfl ?_ | refine ent_take 1 rfl ?_ | refine ent_take 2 rfl ?_ | refine ent_take 3 rfl ?_ | refine ent_take 4 rfl ?_ | refine ent_take 5 rfl ?_ | refine ent_take 6 rfl ?_ | refine ent_take 7 rfl ?_ | refine ent_take 8 rfl ?_ | refine ent_take 9 rfl ?_ | refine ent_take 10 rfl ?_ | refine ent_take 11 rfl ?_ | refine ent_take 12 rfl ?_))⟩
      · rw [if_neg (by rw [hc]; decide)] at z2
        refine TC.cond (t := false) (congrArg Value.bool hc) (fun h9 => by cases h9) (fun _ => ?_)
        refine TC.skip (nb (nt ?_))
        refine TC.region ?_
        refine q rfl rfl (mv (v := .int _ _) rfl) ?_
        first | refine q rfl rfl (addI rfl rfl (by omega) (by omega)) ?_ | refine q rfl rfl (add rfl rfl rfl) ?_
        refine q rfl rfl (asg (v := .int _ _) rfl) ?_
        refine TL.nil (nt ?_)
        exact ⟨rfl, ⟨j + 1, gT W, aa⟩, ⟨by dsimp only; omega, z2⟩, (by dsimp only; omega), ⟨rfl, rfl, rfl, rfl, rfl, rfl, trivial⟩, (by repeat (first | exact ent_nil _ | refine ent_take 0 rfl ?_ | refine ent_take 1 rfl ?_ | refine ent_take 2 rfl ?_ | refine ent_take 3 rfl ?_ | refine ent_take 4 rfl ?_ | refine ent_take 5 rfl ?_ | refine ent_take 6 rfl ?_ | refine ent_take 7 rfl ?_ | refine ent_take 8 rfl ?_ | refine ent_take 9 rfl ?_ | refine ent_take 10 rfl ?_ | refine ent_take 11 rfl ?_ | refine ent_take 12 rfl ?_))⟩
    · obtain rfl : j = qn := by omega
      have hgW := hW.g
      refine TC.exit (et (et (eb (nt ?_))))
      refine TC.seq ?_
      refine TC.region ?_
      refine q rfl rfl (mv (v := .pointer _) rfl) ?_
      refine e rfl ?_
      refine cl (ttold_ok a W) rfl PkL.p trivial ?_
      intro y0 _
      change TL _ _ _ _ _ _ _ _ (sepL [_, _, _])
      have hV := hW.mt hgW.tolds rfl rfl rfl
      have hVt : (toldT W).told = [] := rfl
      generalize toldT W = V at hV hVt ⊢
      have hgV := hV.g
      refine TL.nil (nt ?_)
      refine TC.seq ?_
      refine TC.region ?_
      refine q rfl rfl (asg (v := .slice _ _ _) rfl) ?_
      refine TL.nil (nt ?_)
      refine TC.seq ?_
      refine TC.seq ?_
      refine TC.region ?_
      refine q rfl rfl (mv (v := .int _ _) rfl) ?_
      first | refine q rfl rfl (conv .u8 .i64 rfl rfl rfl (wi64 (by omega) (by omega))) ?_ | refine q rfl rfl (conv .u8 .i64 rfl rfl rfl rfl) ?_
      refine q rfl rfl (mv (v := .int _ _) rfl) ?_
      first | refine q rfl rfl (addI rfl rfl (by omega) (by omega)) ?_ | refine q rfl rfl (add rfl rfl rfl) ?_
      first | refine q rfl rfl (remI rfl rfl (by omega) (by omega)) ?_ | refine q rfl rfl (rem rfl rfl (by omega) rfl) ?_
      refine q rfl rfl (asg (v := .int _ _) rfl) ?_
      refine TL.nil (nt ?_)
      refine TC.block ?_
      rw [hq]
      refine TC.loop (ι := Nat × (Option Addr × Nat)) (fun u => j ≤ u.1 ∧ u.1 ≤ i) (fun u => [(3, .bool f), (9, .pointer (some ⟨a, 0, none⟩)), (10, .int .i64 (i : Int)), (12, .int .i64 aa), (16, .slice u.2.1 ((tG i j).take (u.1 - j)).length u.2.2), (17, .int .i64 ((u.1 : Nat) : Int))]) (fun u => sepL [slc 39 2 u.2.1 ((tG i j).take (u.1 - j)).length u.2.2 (tgsC ((tG i j).take (u.1 - j))), isT a V, F]) (fun u => i - u.1) ⟨j, (none, 0)⟩ ⟨Nat.le_refl _, hqi⟩ ⟨rfl, rfl, rfl, rfl, congrArg (fun n => Value.slice none n 0) (by dsimp only; rw [Nat.sub_self, List.take_zero]; rfl), rfl, trivial⟩ ((slc_nil 39 2 _).trans (ent_takeE 0 rfl (by dsimp only; rw [Nat.sub_self, List.take_zero]; rfl) (by repeat (first | exact ent_nil _ | refine ent_take 0 rfl ?_ | refine ent_take 1 rfl ?_ | refine ent_take 2 rfl ?_ | refine ent_take 3 rfl ?_ | refine ent_take 4 rfl ?_ | refine ent_take 5 rfl ?_ | refine ent_take 6 rfl ?_ | refine ent_take 7 rfl ?_ | refine ent_take 8 rfl ?_ | refine ent_take 9 rfl ?_ | refine ent_take 10 rfl ?_ | refine ent_take 11 rfl ?_ | refine ent_take 12 rfl ?_)))) ?_
      rintro ⟨ee, ⟨oa, oc⟩⟩ ⟨he1, he2⟩ ρ0
      dsimp only [updL] at he1 he2 ⊢
      refine TC.seq ?_
      refine TC.seq ?_
      refine TC.region ?_
      refine q rfl rfl (mv (v := .int _ _) rfl) ?_
      refine q rfl rfl (mv (v := .int _ _) rfl) ?_
      refine q rfl rfl (lss rfl rfl) ?_
      refine TL.nil (nt ?_)
      first | refine TC.condD rfl (fun hlt => ?_) (fun hlt => ?_) | refine TC.cond rfl (fun hlt => ?_) (fun hlt => ?_)
      · have hei : ee < i := by omega
        have hsn := tG_snoc he1 hei
        have hxl : ((tG i j).take (ee - j)).length = ee - j := by rw [List.length_take, tG_len]; omega
        have hxi := tgsC_length ((tG i j).take (ee - j))
        refine TC.skip (nt ?_)
        refine TC.seq ?_
        refine TC.block ?_
        refine TC.region ?_
        refine q rfl rfl (mv (v := .slice _ _ _) rfl) ?_
        refine q rfl rfl (mv (v := .int _ _) rfl) ?_
        first | refine q rfl rfl (bld (cs := [.int _ _, .int _ _]) rfl) ?_ | refine q rfl rfl (bld (cs := [_, _]) rfl) ?_
        refine e rfl ?_
        refine bs (cs := [.int _ _, .int _ _]) rfl ?_
        intro b4
        refine e rfl ?_
        refine ap 16 rfl rfl rfl rfl rfl (Nat.le_of_ble_eq_true rfl) (show _ = tgsC [⟨(ee : Int), 13⟩] from rfl) rfl (by omega) (by simp only [maxLen]; omega) ?_
        intro ad1 cap1
        refine q rfl rfl (asg (v := .slice _ _ _) rfl) ?_
        refine TL.nil (nb (nt ?_))
        refine TC.region ?_
        refine q rfl rfl (mv (v := .int _ _) rfl) ?_
        first | refine q rfl rfl (addI rfl rfl (by omega) (by omega)) ?_ | refine q rfl rfl (add rfl rfl rfl) ?_
        refine q rfl rfl (asg (v := .int _ _) rfl) ?_
        refine TL.nil (nt ?_)
        exact ⟨rfl, ⟨ee + 1, (ad1, cap1)⟩, ⟨by dsimp only; omega, by dsimp only; omega⟩, (by dsimp only; omega), ⟨rfl, rfl, rfl, rfl, congrArg (fun n => Value.slice _ n _) (by dsimp only; rw [← hsn, List.length_append]; rfl), rfl, trivial⟩, (ent_takeE 0 rfl (by dsimp only; rw [← hsn, List.length_append, tgs_app]; rfl) (by repeat (first | exact ent_nil _ | refine ent_take 0 rfl ?_ | refine ent_take 1 rfl ?_ | refine ent_take 2 rfl ?_ | refine ent_take 3 rfl ?_ | refine ent_take 4 rfl ?_ | refine ent_take 5 rfl ?_ | refine ent_take 6 rfl ?_ | refine ent_take 7 rfl ?_ | refine ent_take 8 rfl ?_ | refine ent_take 9 rfl ?_ | refine ent_take 10 rfl ?_ | refine ent_take 11 rfl ?_ | refine ent_take 12 rfl ?_)))⟩
      · obtain rfl : ee = i := by omega
        have hall : (tG ee j).take (ee - j) = tG ee j := List.take_of_length_le (by rw [tG_len]; exact Nat.le_refl _)
        rw [hall]
        have htl := tG_len ee j
        have hti := tgsC_length (tG ee j)
        have hac := hV.ac
        clear hlt
        refine TC.exit (et (et (eb (nt ?_))))
        refine TC.seq ?_
        refine TC.seq ?_
        refine TC.region ?_
        refine q rfl rfl (mv (v := .bool _) rfl) ?_
        refine TL.nil (nt ?_)
        cases f with
        | true => ?_
        | false => ?_
        · refine TC.condT rfl ?_
          obtain ⟨z1, z2, z3⟩ := hV.close6
          have hg6 := z2.g
          rw [hVt] at z3
          obtain ⟨z4, z5, z6, z7⟩ := z2.close7 hqi z3
          refine TC.seq ?_
          refine TC.seq ?_
          refine TC.region ?_
          refine q rfl rfl (mv (v := .pointer _) rfl) ?_
          refine e rfl ?_
          refine cl (tclose_ok a V hgV.p (hgV.tb (by omega)) 6) rfl PkL.p trivial ?_
          intro _ _
          change TL _ _ _ _ _ _ _ _ (sepL [_, _, _])
          rw [z1]
          dsimp only
          refine q rfl rfl (neI rfl rfl) ?_
          refine q rfl rfl (mv (v := .bool _) rfl) ?_
          refine TL.known 108 rfl (c := false) (by decide) ?_
          refine qg rfl rfl rfl (mv (v := .pointer _) rfl) ?_
          refine eg rfl rfl ?_
          refine cl (tclose_ok a (gC V 6) hg6.p (hg6.tb (by omega)) 7) rfl PkL.p trivial ?_
          intro _ _
          change TL _ _ _ _ _ _ _ _ (sepL [_, _, _])
          rw [z4]
          dsimp only
          refine qg rfl rfl rfl (mv (v := .slice _ _ _) rfl) ?_
          refine qg rfl rfl rfl (len 39 2 rfl rfl) ?_
          refine qg rfl rfl rfl (neI rfl rfl) ?_
          first | refine q rfl rfl (pkT (v := .bool _) rfl rfl) ?_ | refine q rfl rfl (pkF (v := .bool _) rfl rfl) ?_
          refine q rfl rfl (mv (v := .bool _) rfl) ?_
          refine TL.known 115 rfl (c := false) (decide_eq_false (by rw [htl]; exact fun h9 => h9 rfl)) ?_
          refine qg rfl rfl rfl (mv (v := .int _ _) rfl) ?_
          refine qg rfl rfl rfl (geq rfl rfl) ?_
          refine qg rfl rfl rfl (mv (v := .bool _) rfl) ?_
          rcases Decidable.em (0 ≤ aa) with ha | ha
          · refine TL.known 118 rfl (c := true) (decide_eq_true ha) ?_
            refine qg rfl rfl rfl (mv (v := .pointer _) rfl) ?_
            refine qg rfl rfl rfl (mv (v := .int _ _) rfl) ?_
            refine eg rfl rfl ?_
            refine cl (tstate_ok a (gC (gC V 6) 7) aa) rfl PkL.p trivial ?_
            intro _ _
            change TL _ _ _ _ _ _ _ _ (sepL [_, _, _])
            rw [z7 ha]
            refine qg rfl rfl rfl (neI rfl rfl) ?_
            first | refine qg rfl rfl rfl (pkT (v := .bool _) rfl rfl) ?_ | refine qg rfl rfl rfl (pkF (v := .bool _) rfl rfl) ?_
            first | refine q rfl rfl (pkT (v := .bool _) rfl rfl) ?_ | refine q rfl rfl (pkF (v := .bool _) rfl rfl) ?_
            refine TL.nil (nt ?_)
            refine TC.condF rfl ?_
            refine TC.skip (nt ?_)
            refine TC.seq ?_
            refine TC.region ?_
            refine q rfl rfl (mv (v := .pointer _) rfl) ?_
            refine e rfl ?_
            refine cl (ttold_ok a (gC (gC V 6) 7)) rfl PkL.p trivial ?_
            intro yt _
            change TL _ _ _ _ _ _ _ _ (sepL [_, _, _, _])
            rw [z6]
            refine q rfl rfl (mv (v := .slice _ _ _) rfl) ?_
            refine e rfl ?_
            refine cl (tsame_ok yt.1 _ (tG ee j) oa _ (tG ee j) (by omega)) rfl (picked_nil _) ⟨⟨_, RdSI.rd (ad := yt.1)⟩, ⟨_, RdSI.rd (ad := oa)⟩⟩ ?_
            intro _ _
            change TL _ _ _ _ _ _ _ _ (sepL [_, _, _, _])
            rw [decide_eq_true rfl]
            refine q rfl rfl (asg (v := .bool _) rfl) ?_
            refine TL.nil (nt ?_)
            refine TC.ret (rt ?_)
            exact Ret.i () [_] ⟨rfl, trivial⟩ rfl trivial (by repeat (first | exact ent_nil _ | refine ent_take 0 rfl ?_ | refine ent_take 1 rfl ?_ | refine ent_take 2 rfl ?_ | refine ent_take 3 rfl ?_ | refine ent_take 4 rfl ?_ | refine ent_take 5 rfl ?_ | refine ent_take 6 rfl ?_ | refine ent_take 7 rfl ?_ | refine ent_take 8 rfl ?_ | refine ent_take 9 rfl ?_ | refine ent_take 10 rfl ?_ | refine ent_take 11 rfl ?_ | refine ent_take 12 rfl ?_))
          · refine TL.known 118 rfl (c := false) (decide_eq_false ha) ?_
            refine qs rfl rfl ?_
            refine qs rfl rfl ?_
            refine qs rfl rfl ?_
            refine qs rfl rfl ?_
            first | refine qg rfl rfl rfl (pkT (v := .bool _) rfl rfl) ?_ | refine qg rfl rfl rfl (pkF (v := .bool _) rfl rfl) ?_
            first | refine q rfl rfl (pkT (v := .bool _) rfl rfl) ?_ | refine q rfl rfl (pkF (v := .bool _) rfl rfl) ?_
            refine TL.nil (nt ?_)
            refine TC.condF rfl ?_
            refine TC.skip (nt ?_)
            refine TC.seq ?_
            refine TC.region ?_
            refine q rfl rfl (mv (v := .pointer _) rfl) ?_
            refine e rfl ?_
            refine cl (ttold_ok a (gC (gC V 6) 7)) rfl PkL.p trivial ?_
            intro yt _
            change TL _ _ _ _ _ _ _ _ (sepL [_, _, _, _])
            rw [z6]
            refine q rfl rfl (mv (v := .slice _ _ _) rfl) ?_
            refine e rfl ?_
            refine cl (tsame_ok yt.1 _ (tG ee j) oa _ (tG ee j) (by omega)) rfl (picked_nil _) ⟨⟨_, RdSI.rd (ad := yt.1)⟩, ⟨_, RdSI.rd (ad := oa)⟩⟩ ?_
            intro _ _
            change TL _ _ _ _ _ _ _ _ (sepL [_, _, _, _])
            rw [decide_eq_true rfl]
            refine q rfl rfl (asg (v := .bool _) rfl) ?_
            refine TL.nil (nt ?_)
            refine TC.ret (rt ?_)
            exact Ret.i () [_] ⟨rfl, trivial⟩ rfl trivial (by repeat (first | exact ent_nil _ | refine ent_take 0 rfl ?_ | refine ent_take 1 rfl ?_ | refine ent_take 2 rfl ?_ | refine ent_take 3 rfl ?_ | refine ent_take 4 rfl ?_ | refine ent_take 5 rfl ?_ | refine ent_take 6 rfl ?_ | refine ent_take 7 rfl ?_ | refine ent_take 8 rfl ?_ | refine ent_take 9 rfl ?_ | refine ent_take 10 rfl ?_ | refine ent_take 11 rfl ?_ | refine ent_take 12 rfl ?_))
        · refine TC.condF rfl ?_
          obtain ⟨z1, z2, z3, z4, z5⟩ := hV.remove hqi hm1.2 hVt
          refine TC.skip (nt ?_)
          refine TC.seq ?_
          refine TC.seq ?_
          refine TC.region ?_
          refine q rfl rfl (mv (v := .int _ _) rfl) ?_
          refine q rfl rfl (geq rfl rfl) ?_
          refine TL.nil (nt ?_)
          first | refine TC.condD rfl (fun ha => ?_) (fun ha => ?_) | refine TC.cond rfl (fun ha => ?_) (fun ha => ?_)
          · rw [if_pos ha] at z3
            refine TC.region ?_
            refine q rfl rfl (mv (v := .slice _ _ _) rfl) ?_
            refine q rfl rfl (mv (v := .int _ _) rfl) ?_
            first | refine q rfl rfl (bld (cs := [.int _ _, .int _ _]) rfl) ?_ | refine q rfl rfl (bld (cs := [_, _]) rfl) ?_
            refine e rfl ?_
            refine bs (cs := [.int _ _, .int _ _]) rfl ?_
            intro b5
            refine e rfl ?_
            refine ap 16 rfl rfl rfl rfl rfl (Nat.le_of_ble_eq_true rfl) (show _ = tgsC [⟨aa, 13⟩] from rfl) rfl (by omega) (by simp only [maxLen]; omega) ?_
            intro ad2 cap2
            refine q rfl rfl (asg (v := .slice _ _ _) rfl) ?_
            refine TL.nil (nt ?_)
            refine TC.seq ?_
            refine TC.seq ?_
            refine TC.weak (B := sepL [slc 39 2 ad2 (tG ee j ++ [(⟨aa, 13⟩ : Tg)]).length cap2 (tgsC (tG ee j ++ [(⟨aa, 13⟩ : Tg)])), isT a V, F]) (ent_takeE 0 rfl (by rw [List.length_append, tgs_app]; rfl) (by repeat (first | exact ent_nil _ | refine ent_take 0 rfl ?_ | refine ent_take 1 rfl ?_ | refine ent_take 2 rfl ?_ | refine ent_take 3 rfl ?_ | refine ent_take 4 rfl ?_ | refine ent_take 5 rfl ?_ | refine ent_take 6 rfl ?_ | refine ent_take 7 rfl ?_ | refine ent_take 8 rfl ?_ | refine ent_take 9 rfl ?_ | refine ent_take 10 rfl ?_ | refine ent_take 11 rfl ?_ | refine ent_take 12 rfl ?_))) ?_
            rw [show (tG ee j).length + 1 = (tG ee j ++ [(⟨aa, 13⟩ : Tg)]).length from by rw [List.length_append]; rfl]
            have hxl2 : (tG ee j ++ [(⟨aa, 13⟩ : Tg)]).length ≤ 1000 := by rw [List.length_append, htl, List.length_singleton]; omega
            refine TC.region ?_
            refine q rfl rfl (mv (v := .pointer _) rfl) ?_
            refine e rfl ?_
            refine cl (tremove_ok a V hgV.p (hgV.tb (by omega)) 100 (hgV.tl (by omega))) rfl PkL.p trivial ?_
            intro _ _
            change TL _ _ _ _ _ _ _ _ (sepL [_, _, _])
            rw [z1]
            dsimp only
            refine q rfl rfl (neI rfl rfl) ?_
            refine q rfl rfl (mv (v := .bool _) rfl) ?_
            refine TL.known 139 rfl (c := false) (by decide) ?_
            refine qg rfl rfl rfl (mv (v := .pointer _) rfl) ?_
            refine eg rfl rfl ?_
            refine cl (ttold_ok a (gR V)) rfl PkL.p trivial ?_
            intro yt _
            change TL _ _ _ _ _ _ _ _ (sepL [_, _, _, _])
            rw [z3]
            have hg7 := z2.tolds
            refine qg rfl rfl rfl (mv (v := .slice _ _ _) rfl) ?_
            refine eg rfl rfl ?_
            refine cl (tsame_ok yt.1 _ (tG ee j ++ [(⟨aa, 13⟩ : Tg)]) ad2 _ (tG ee j ++ [(⟨aa, 13⟩ : Tg)]) (by omega)) rfl (picked_nil _) ⟨⟨_, RdSI.rd (ad := yt.1)⟩, ⟨_, RdSI.rd (ad := ad2)⟩⟩ ?_
            intro _ _
            change TL _ _ _ _ _ _ _ _ (sepL [_, _, _, _])
            rw [decide_eq_true rfl]
            first | refine qg rfl rfl rfl (notD rfl) ?_ | refine qg rfl rfl rfl (notB rfl) ?_
            first | refine q rfl rfl (pkT (v := .bool _) rfl rfl) ?_ | refine q rfl rfl (pkF (v := .bool _) rfl rfl) ?_
            refine TL.nil (nt ?_)
            refine TC.condF rfl ?_
            refine TC.skip (nt ?_)
            refine TC.seq ?_
            refine TC.region ?_
            refine q rfl rfl (mv (v := .pointer _) rfl) ?_
            refine e rfl ?_
            refine cl (tready_ok a (toldT (gR V)) hg7.p (hg7.tb (by omega)) 1) rfl PkL.p trivial ?_
            intro yr _
            change TL _ _ _ _ _ _ _ _ (sepL [_, _, _, _, _])
            rw [z4]
            refine q rfl rfl (len 3 1 rfl rfl) ?_
            refine q rfl rfl (mv (v := .int _ _) rfl) ?_
            refine q rfl rfl (eqI rfl rfl) ?_
            refine q rfl rfl (mv (v := .bool _) rfl) ?_
            refine TL.known 151 rfl (c := true) (decide_eq_true rfl) ?_
            refine qg rfl rfl rfl (mv (v := .pointer _) rfl) ?_
            refine eg rfl rfl ?_
            refine cl (tremove_ok a (toldT (gR V)) hg7.p (hg7.tb (by omega)) 100 (hg7.tl (by omega))) rfl PkL.p trivial ?_
            intro _ _
            change TL _ _ _ _ _ _ _ _ (sepL [_, _, _, _, _])
            rw [z5]
            dsimp only
            refine qg rfl rfl rfl (eqI rfl rfl) ?_
            first | refine q rfl rfl (pkT (v := .bool _) rfl rfl) ?_ | refine q rfl rfl (pkF (v := .bool _) rfl rfl) ?_
            refine q rfl rfl (asg (v := .bool _) rfl) ?_
            refine TL.nil (nt ?_)
            refine TC.ret ?_
            exact Ret.i () [_] ⟨rfl, trivial⟩ rfl trivial (by repeat (first | exact ent_nil _ | refine ent_take 0 rfl ?_ | refine ent_take 1 rfl ?_ | refine ent_take 2 rfl ?_ | refine ent_take 3 rfl ?_ | refine ent_take 4 rfl ?_ | refine ent_take 5 rfl ?_ | refine ent_take 6 rfl ?_ | refine ent_take 7 rfl ?_ | refine ent_take 8 rfl ?_ | refine ent_take 9 rfl ?_ | refine ent_take 10 rfl ?_ | refine ent_take 11 rfl ?_ | refine ent_take 12 rfl ?_))
          · rw [if_neg ha] at z3
            have hxl2 : (tG ee j).length ≤ 1000 := by omega
            refine TC.skip (nt ?_)
            refine TC.seq ?_
            refine TC.seq ?_
            refine TC.region ?_
            refine q rfl rfl (mv (v := .pointer _) rfl) ?_
            refine e rfl ?_
            refine cl (tremove_ok a V hgV.p (hgV.tb (by omega)) 100 (hgV.tl (by omega))) rfl PkL.p trivial ?_
            intro _ _
            change TL _ _ _ _ _ _ _ _ (sepL [_, _, _])
            rw [z1]
            dsimp only
            refine q rfl rfl (neI rfl rfl) ?_
            refine q rfl rfl (mv (v := .bool _) rfl) ?_
            refine TL.known 139 rfl (c := false) (by decide) ?_
            refine qg rfl rfl rfl (mv (v := .pointer _) rfl) ?_
            refine eg rfl rfl ?_
            refine cl (ttold_ok a (gR V)) rfl PkL.p trivial ?_
            intro yt _
            change TL _ _ _ _ _ _ _ _ (sepL [_, _, _, _])
            rw [z3]
            have hg7 := z2.tolds
            refine qg rfl rfl rfl (mv (v := .slice _ _ _) rfl) ?_
            refine eg rfl rfl ?_
            refine cl (tsame_ok yt.1 _ (tG ee j) oa _ (tG ee j) (by omega)) rfl (picked_nil _) ⟨⟨_, RdSI.rd (ad := yt.1)⟩, ⟨_, RdSI.rd (ad := oa)⟩⟩ ?_
            intro _ _
            change TL _ _ _ _ _ _ _ _ (sepL [_, _, _, _])
            rw [decide_eq_true rfl]
            first | refine qg rfl rfl rfl (notD rfl) ?_ | refine qg rfl rfl rfl (notB rfl) ?_
            first | refine q rfl rfl (pkT (v := .bool _) rfl rfl) ?_ | refine q rfl rfl (pkF (v := .bool _) rfl rfl) ?_
            refine TL.nil (nt ?_)
            refine TC.condF rfl ?_
            refine TC.skip (nt ?_)
            refine TC.seq ?_
            refine TC.region ?_
            refine q rfl rfl (mv (v := .pointer _) rfl) ?_
            refine e rfl ?_
            refine cl (tready_ok a (toldT (gR V)) hg7.p (hg7.tb (by omega)) 1) rfl PkL.p trivial ?_
            intro yr _
            change TL _ _ _ _ _ _ _ _ (sepL [_, _, _, _, _])
            rw [z4]
            refine q rfl rfl (len 3 1 rfl rfl) ?_
            refine q rfl rfl (mv (v := .int _ _) rfl) ?_
            refine q rfl rfl (eqI rfl rfl) ?_
            refine q rfl rfl (mv (v := .bool _) rfl) ?_
            refine TL.known 151 rfl (c := true) (decide_eq_true rfl) ?_
            refine qg rfl rfl rfl (mv (v := .pointer _) rfl) ?_
            refine eg rfl rfl ?_
            refine cl (tremove_ok a (toldT (gR V)) hg7.p (hg7.tb (by omega)) 100 (hg7.tl (by omega))) rfl PkL.p trivial ?_
            intro _ _
            change TL _ _ _ _ _ _ _ _ (sepL [_, _, _, _, _])
            rw [z5]
            dsimp only
            refine qg rfl rfl rfl (eqI rfl rfl) ?_
            first | refine q rfl rfl (pkT (v := .bool _) rfl rfl) ?_ | refine q rfl rfl (pkF (v := .bool _) rfl rfl) ?_
            refine q rfl rfl (asg (v := .bool _) rfl) ?_
            refine TL.nil (nt ?_)
            refine TC.ret ?_
            exact Ret.i () [_] ⟨rfl, trivial⟩ rfl trivial (by repeat (first | exact ent_nil _ | refine ent_take 0 rfl ?_ | refine ent_take 1 rfl ?_ | refine ent_take 2 rfl ?_ | refine ent_take 3 rfl ?_ | refine ent_take 4 rfl ?_ | refine ent_take 5 rfl ?_ | refine ent_take 6 rfl ?_ | refine ent_take 7 rfl ?_ | refine ent_take 8 rfl ?_ | refine ent_take 9 rfl ?_ | refine ent_take 10 rfl ?_ | refine ent_take 11 rfl ?_ | refine ent_take 12 rfl ?_))

end Go.Proofs.Ytdfmfhcjnjfjbaa
