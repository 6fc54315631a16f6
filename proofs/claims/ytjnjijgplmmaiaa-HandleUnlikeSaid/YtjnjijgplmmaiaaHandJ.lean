/-
  Proved here: what functions of this program compute, each as a contract over symbolic states, under the premises that each theorem names (most lines printed by a program of the prover).
-/
import Derived.Test.YtjnjijgplmmaiaaHandI
namespace Go.Proofs.Ytjnjijgplmmaiaa
open Go Go.QM
structure RelT (l m : List Pl) : Prop where
  okl : OkT l
  okm : OkT m
  r : ∀ (i : Nat) (p q : Pl), l[i]? = some p → m[i]? = some q → p.st = q.st ∧ p.age = q.age ∧ (p.st = 1 ∨ p.st = 2 → p.o = q.o)
theorem RelT.start : RelT (List.replicate 256 zeroPl) (List.replicate 256 zeroPl) := ⟨ok_new, ok_new, fun i p q h1 h2 => by rw [h1] at h2; cases h2; exact ⟨rfl, rfl, fun _ => rfl⟩⟩
theorem RelT.at {l m : List Pl} (h : RelT l m) {i : Nat} {p : Pl} (hi : l[i]? = some p) : ∃ q, m[i]? = some q ∧ p.st = q.st ∧ p.age = q.age ∧ (p.st = 1 ∨ p.st = 2 → p.o = q.o) := by
  obtain ⟨q, hq, _⟩ := h.okm.at (h.okl.lt hi)
  exact ⟨q, hq, h.r i p q hi hq⟩
theorem RelT.set {l m : List Pl} (h : RelT l m) (i : Nat) {p q : Pl} (h1 : 0 ≤ p.age ∧ p.age ≤ 1048575) (h2 : p.st = q.st) (h3 : p.age = q.age) (h4 : p.st = 1 ∨ p.st = 2 → p.o = q.o) : RelT (l.set i p) (m.set i q) where
  okl := h.okl.set i h1
  okm := h.okm.set i (by rw [← h3]; exact h1)
  r := fun j a b ha hb => by
    by_cases e : i = j
    · subst e
      have hl : i < l.length := by have := (List.getElem?_eq_some_iff.1 ha).1; rw [List.length_set] at this; exact this
      have hm : i < m.length := by have := (List.getElem?_eq_some_iff.1 hb).1; rw [List.length_set] at this; exact this
      rw [List.getElem?_set_self hl] at ha; rw [List.getElem?_set_self hm] at hb
      cases ha; cases hb
      exact ⟨h2, h3, h4⟩
    · rw [set_ne e] at ha hb
      exact h.r j a b ha hb
theorem RelT.look {l m : List Pl} (h : RelT l m) (z st : Int) : (lookL l z st = none ∧ lookL m z st = none) ∨ ∃ i p q, lookL l z st = some (i, p) ∧ lookL m z st = some (i, q) ∧ l[i]? = some p ∧ m[i]? = some q ∧ p.st = st ∧ p.st = q.st ∧ p.age = q.age ∧ (p.st = 1 ∨ p.st = 2 → p.o = q.o) := by
  have hlt : (z % 256).toNat < 256 := by omega
  obtain ⟨p, hp, _⟩ := h.okl.at hlt
  obtain ⟨q, hq, h1, h2, h3⟩ := h.at hp
  by_cases hc : p.age * 256 + z % 256 = z ∧ p.st = st
  · refine .inr ⟨_, p, q, ?_, ?_, hp, hq, hc.2, h1, h2, h3⟩
    · rw [lookL, hp]; simp only; rw [if_pos hc]
    · rw [lookL, hq]; simp only; rw [if_pos (by rw [← h1, ← h2]; exact hc)]
  · refine .inl ⟨?_, ?_⟩
    · rw [lookL, hp]; simp only; rw [if_neg hc]
    · rw [lookL, hq]; simp only; rw [if_neg (by rw [← h1, ← h2]; exact hc)]
theorem RelT.get {l m : List Pl} (h : RelT l m) (z : Int) : getR m z = getR l z := by
  rcases h.look z 1 with ⟨h1, h2⟩ | ⟨i, p, q, h1, h2, _, _, h3, _, _, h4⟩
  · rw [getR, getR, h1, h2]
  · rw [getR, getR, h1, h2]; simp only [h4 (.inl h3)]
theorem RelT.peek {l m : List Pl} (h : RelT l m) (z : Int) : peekR m z = peekR l z := by
  rcases h.look z 2 with ⟨h1, h2⟩ | ⟨i, p, q, h1, h2, _, _, h3, _, _, h4⟩
  · rw [peekR, peekR, h1, h2]; exact h.get z
  · rw [peekR, peekR, h1, h2]; simp only [h4 (.inr h3)]
theorem RelT.kill {l m : List Pl} (h : RelT l m) (z : Int) : (killR m z).2 = (killR l z).2 ∧ RelT (killR l z).1 (killR m z).1 := by
  rcases h.look z 1 with ⟨h1, h2⟩ | ⟨i, p, q, h1, h2, hi, _, h3, h4, h5, h6⟩
  · rw [killR, killR, h1, h2]; exact ⟨rfl, h⟩
  · rw [killR, killR, h1, h2]; exact ⟨rfl, h.set i (h.okl.age p (List.mem_of_getElem? hi)) rfl h5 (fun _ => h6 (.inl h3))⟩
theorem RelT.free {l m : List Pl} (h : RelT l m) (z : Int) : (rfreeR m z).2 = (freeR l z).2 ∧ RelT (freeR l z).1 (rfreeR m z).1 := by
  rcases h.look z 2 with ⟨h1, h2⟩ | ⟨i, p, q, h1, h2, hi, _, h3, h4, h5, h6⟩
  · rw [rfreeR, freeR, h1, h2]; exact ⟨rfl, h⟩
  · have ha := h.okl.age p (List.mem_of_getElem? hi)
    rw [rfreeR, freeR, h1, h2]
    refine ⟨by simp only [h6 (.inr h3)], ?_⟩
    simp only
    by_cases hb : p.age < 1048575
    · have e1 : freeP p = ⟨zeroOb, 0, p.age + 1⟩ := by rw [freeP, if_neg (by omega)]
      have e2 : rfreeP q = ⟨q.o, 0, q.age + 1⟩ := by rw [rfreeP, if_pos (by omega)]
      rw [e1, e2]
      exact h.set i (by dsimp only; omega) rfl (by simp only [h5]) (by intro h; dsimp only at h; omega)
    · have e1 : freeP p = ⟨zeroOb, 3, 1048575⟩ := by rw [freeP, if_pos (by omega)]
      have e2 : rfreeP q = ⟨q.o, 3, q.age⟩ := by rw [rfreeP, if_neg (by omega)]
      rw [e1, e2]
      exact h.set i (by dsimp only; omega) rfl (by dsimp only; omega) (by intro h; dsimp only at h; omega)
theorem RelT.age {l m : List Pl} (h : RelT l m) (i a : Int) : (ageR m i a).2 = (ageR l i a).2 ∧ RelT (ageR l i a).1 (ageR m i a).1 := by
  by_cases hc : 0 ≤ i ∧ i < 256 ∧ 0 ≤ a ∧ a ≤ 1048575
  · obtain ⟨p, hp, _⟩ := h.okl.at (show i.toNat < 256 by omega)
    obtain ⟨q, hq, h1, h2, h3⟩ := h.at hp
    rw [ageR, ageR, if_pos hc, if_pos hc, hp, hq]
    simp only
    by_cases hs : p.st = 0
    · rw [if_pos hs, if_pos (by omega)]
      exact ⟨rfl, h.set _ (by dsimp only; omega) h1 rfl h3⟩
    · rw [if_neg hs, if_neg (by omega)]; exact ⟨rfl, h⟩
  · rw [ageR, ageR, if_neg hc, if_neg hc]; exact ⟨rfl, h⟩
theorem find_same : ∀ {l m : List Pl}, l.length = m.length → (∀ (i : Nat) (p q : Pl), l[i]? = some p → m[i]? = some q → p.st = q.st) → m.findIdx? isEmpty = l.findIdx? isEmpty
  | [], [], _, _ => rfl
  | [], _ :: _, h, _ => by simp at h
  | _ :: _, [], h, _ => by simp at h
  | a :: l, b :: m, h, hr => by
    have h0 := hr 0 a b rfl rfl
    have ih := find_same (l := l) (m := m) (by simpa using h) (fun i p q h1 h2 => hr (i + 1) p q h1 h2)
    simp only [List.findIdx?_cons, isEmpty, h0, ih]
theorem RelT.put {l m : List Pl} (h : RelT l m) (o : Ob) : (putR m o).2 = (putR l o).2 ∧ RelT (putR l o).1 (putR m o).1 := by
  have hf := find_same (l := l) (m := m) (by rw [h.okl.n, h.okm.n]) (fun i p q h1 h2 => (h.r i p q h1 h2).1)
  cases hl : l.findIdx? isEmpty with
  | none => rw [hl] at hf; rw [putR, putR, hl, hf]; exact ⟨rfl, h⟩
  | some i =>
    rw [hl] at hf
    obtain ⟨p, hp, _⟩ := find_empty hl
    obtain ⟨q, hq, h1, h2, h3⟩ := h.at hp
    rw [putR, putR, hl, hf]
    simp only
    rw [hp, hq]
    exact ⟨by simp only [h2], h.set i (h.okl.age p (List.mem_of_getElem? hp)) rfl h2 (fun _ => rfl)⟩
theorem allT_cons (s : Int) (t : Pl × Nat) (z : List (Pl × Nat)) : allT s (t :: z) = if t.1.st = s then (t.1.age * 256 + (t.2 : Int)) :: allT s z else allT s z := by
  rw [allT, allT, List.filter_cons]
  by_cases h : t.1.st = s
  · rw [if_pos (by simpa using h), if_pos h]; rfl
  · rw [if_neg (by simpa using h), if_neg h]
theorem all_same (s : Int) : ∀ {l m : List Pl} (k : Nat), l.length = m.length → (∀ (i : Nat) (p q : Pl), l[i]? = some p → m[i]? = some q → p.st = q.st ∧ p.age = q.age) → allT s (m.zipIdx k) = allT s (l.zipIdx k)
  | [], [], _, _, _ => rfl
  | [], _ :: _, _, h, _ => by simp at h
  | _ :: _, [], _, h, _ => by simp at h
  | a :: l, b :: m, k, h, hr => by
    obtain ⟨h0, h1⟩ := hr 0 a b rfl rfl
    have ih := all_same s (l := l) (m := m) (k + 1) (by simpa using h) (fun i p q h1 h2 => hr (i + 1) p q h1 h2)
    rw [List.zipIdx_cons, List.zipIdx_cons, allT_cons, allT_cons, ih]
    simp only [h0, h1]
theorem RelT.all {l m : List Pl} (h : RelT l m) (s : Int) : allL m s = allL l s :=
  all_same s 0 (by rw [h.okl.n, h.okm.n]) (fun i p q h1 h2 => ⟨(h.r i p q h1 h2).1, (h.r i p q h1 h2).2.1⟩)
theorem allL_bound {l : List Pl} (h : OkT l) {s z : Int} (hz : z ∈ allL l s) : 0 ≤ z ∧ z ≤ 4294967295 := by
  rw [allL, allT] at hz
  obtain ⟨t, ht, rfl⟩ := List.mem_map.1 hz
  have hm := (List.mem_filter.1 ht).1
  obtain ⟨p, i⟩ := t
  obtain ⟨_, h2, h3⟩ := List.mem_zipIdx hm
  have ha := h.age p (by rw [h3]; exact List.getElem_mem _)
  have hn := h.n
  simp only
  omega
structure HAct where
  kind : Int
  n : Int
  h : Int
  o : Ob
def hactC (t : HAct) : List Value := [.int .i64 t.kind, .int .i64 t.n, .int .u32 t.h, .int .i64 t.o.k, .int .i64 t.o.a, .int .i64 t.o.f]
def hactsC (l : List HAct) : List Value := l.flatMap hactC
theorem hactC_sz (t : HAct) : (hactC t).length = 6 := rfl
theorem hactsC_length (l : List HAct) : (hactsC l).length = l.length * 6 := flat_length hactC_sz l

theorem hacts_ok (ad : Option Addr) (xs : List HAct) (cap : Nat) (has : ∀ t ∈ xs, (-9223372036854775808 ≤ t.kind ∧ t.kind ≤ 9223372036854775807) ∧ 0 ≤ t.h ∧ t.h ≤ 4294967295) : FSpec Try.prog 5 [.slice ad xs.length cap] (fun F => ∃ E, RdS F E ad (hactsC xs)) [] (fun _ : Unit => .bool true) (fun _ => True) (fun _ => []) := by
  refine FSpec.intro (rs := [.tmp 2]) (by kernel_rfl) Try.func5 rfl Try.ntmps5 (by rfl) rfl ?_
  intro F ⟨E, hF⟩
  change TC _ _ _ _ _ _ _ (sepL [_])
  haveI : RdSI F ad E (hactsC xs) := ⟨hF⟩
  refine TC.seq ?_
  refine TC.region ?_
  refine q rfl rfl (asg (v := .bool _) rfl) ?_
  refine TL.nil (nt ?_)
  refine TC.seq ?_
  refine TC.seq ?_
  refine TC.region ?_
  refine e rfl ?_
  refine cl alive_ok rfl (picked_nil _) trivial ?_
  intro _ _
  change TL _ _ _ _ _ _ _ _ (sepL [_])
  first | refine q rfl rfl (notD rfl) ?_ | refine q rfl rfl (notB rfl) ?_
  refine TL.nil (nt ?_)
  refine TC.condF rfl ?_
  refine TC.skip (nt ?_)
  refine TC.seq ?_
  refine TC.seq ?_
  refine TC.region ?_
  refine q rfl rfl (mv (v := .slice _ _ _) rfl) ?_
  refine q rfl rfl (len 48 6 rfl rfl) ?_
  refine q rfl rfl (gtr rfl rfl) ?_
  refine TL.nil (nt ?_)
  first | refine TC.condD rfl (fun hbig => ?_) (fun hbig => ?_) | refine TC.cond rfl (fun hbig => ?_) (fun hbig => ?_)
  · refine TC.seq ?_
    refine TC.region ?_
    refine q rfl rfl (asg (v := .bool _) rfl) ?_
    refine TL.nil (nt ?_)
    refine TC.ret (rt ?_)
    exact Ret.i () [_] ⟨rfl, trivial⟩ rfl trivial (ent_take 0 rfl (ent_nil _))
  · have hL : xs.length ≤ 400 := by omega
    refine TC.skip (nt ?_)
    refine TC.seq ?_
    refine TC.region ?_
    refine q rfl rfl (asg (v := .pointer _) rfl) ?_
    refine TL.nil (nt ?_)
    refine TC.seq ?_
    refine TC.region ?_
    refine q rfl rfl (mv (v := .pointer _) rfl) ?_
    first | refine q rfl rfl (bld (cs := ints [_, _, _]) rfl) ?_ | refine q rfl rfl (bld (cs := [_, _, _]) rfl) ?_
    refine e rfl ?_
    refine cl (put_nil zeroOb) rfl (picked_nil _) trivial ?_
    intro _ _
    change TL _ _ _ _ _ _ _ _ (sepL [_])
    refine q rfl rfl (mv (v := .tuple _) rfl) ?_
    refine q rfl rfl (pu (v := .int _ _) (fun _ => rfl)) ?_
    refine q rfl rfl (pu (v := .int _ _) (fun _ => rfl)) ?_
    refine q rfl rfl (asg (v := .int _ _) rfl) ?_
    refine q rfl rfl (asg (v := .int _ _) rfl) ?_
    refine TL.nil (nt ?_)
    refine TC.seq ?_
    refine TC.region ?_
    refine q rfl rfl (mv (v := .pointer _) rfl) ?_
    refine e rfl ?_
    refine cl (get_nil 0) rfl (picked_nil _) trivial ?_
    intro _ _
    change TL _ _ _ _ _ _ _ _ (sepL [_])
    refine q rfl rfl (mv (v := .tuple _) rfl) ?_
    refine q rfl rfl (pu (v := .agg (List.toArray (ints [_, _, _]))) (fun _ => rfl)) ?_
    refine q rfl rfl (pu (v := .int _ _) (fun _ => rfl)) ?_
    refine e rfl ?_
    refine al (l := ints [_, _, _]) rfl rfl ?_
    intro b1
    refine e0 ?_
    refine st (v := .agg (List.toArray (ints [_, _, _]))) (vs := ints [_, _, _]) 3 rfl rfl rfl rfl rfl rfl (Nat.le_of_ble_eq_true rfl) rfl ?_
    refine q rfl rfl (asg (v := .int _ _) rfl) ?_
    refine TL.nil (nt ?_)
    refine TC.seq ?_
    refine TC.region ?_
    refine q rfl rfl (mv (v := .pointer _) rfl) ?_
    refine e rfl ?_
    refine cl (free_nil 0) rfl (picked_nil _) trivial ?_
    intro _ _
    change TL _ _ _ _ _ _ _ _ (sepL [_, _])
    refine q rfl rfl (mv (v := .tuple _) rfl) ?_
    refine q rfl rfl (pu (v := .agg (List.toArray (ints [_, _, _]))) (fun _ => rfl)) ?_
    refine q rfl rfl (pu (v := .int _ _) (fun _ => rfl)) ?_
    refine e rfl ?_
    refine al (l := ints [_, _, _]) rfl rfl ?_
    intro b2
    refine e0 ?_
    refine st (v := .agg (List.toArray (ints [_, _, _]))) (vs := ints [_, _, _]) 3 rfl rfl rfl rfl rfl rfl (Nat.le_of_ble_eq_true rfl) rfl ?_
    refine q rfl rfl (asg (v := .int _ _) rfl) ?_
    refine TL.nil (nt ?_)
    refine TC.seq ?_
    refine TC.region ?_
    refine q rfl rfl (mv (v := .pointer _) rfl) ?_
    refine e rfl ?_
    refine cl (peek_nil 0) rfl (picked_nil _) trivial ?_
    intro _ _
    change TL _ _ _ _ _ _ _ _ (sepL [_, _, _])
    refine q rfl rfl (mv (v := .tuple _) rfl) ?_
    refine q rfl rfl (pu (v := .agg (List.toArray (ints [_, _, _]))) (fun _ => rfl)) ?_
    refine q rfl rfl (pu (v := .int _ _) (fun _ => rfl)) ?_
    refine e rfl ?_
    refine al (l := ints [_, _, _]) rfl rfl ?_
    intro b3
    refine e0 ?_
    refine st (v := .agg (List.toArray (ints [_, _, _]))) (vs := ints [_, _, _]) 3 rfl rfl rfl rfl rfl rfl (Nat.le_of_ble_eq_true rfl) rfl ?_
    refine q rfl rfl (asg (v := .int _ _) rfl) ?_
    refine TL.nil (nt ?_)
    refine TC.seq ?_
    refine TC.seq ?_
    refine TC.region ?_
    refine q rfl rfl (mv (v := .int _ _) rfl) ?_
    refine q rfl rfl (neI rfl rfl) ?_
    refine q rfl rfl (mv (v := .bool _) rfl) ?_
    refine TL.known 64 rfl (c := false) rfl ?_
    refine qg rfl rfl rfl (mv (v := .pointer _) rfl) ?_
    refine eg rfl rfl ?_
    refine cl room_nil rfl (picked_nil _) trivial ?_
    intro _ _
    change TL _ _ _ _ _ _ _ _ (sepL [_, _, _, _])
    refine qg rfl rfl rfl (neI rfl rfl) ?_
    first | refine q rfl rfl (pkT rfl rfl) ?_ | refine q rfl rfl (pkF rfl rfl) ?_
    refine q rfl rfl (mv (v := .bool _) rfl) ?_
    refine TL.known 69 rfl (c := false) rfl ?_
    refine qg rfl rfl rfl (mv (v := .int _ _) rfl) ?_
    refine qg rfl rfl rfl (neI rfl rfl) ?_
    first | refine q rfl rfl (pkT rfl rfl) ?_ | refine q rfl rfl (pkF rfl rfl) ?_
    refine q rfl rfl (mv (v := .bool _) rfl) ?_
    refine TL.known 73 rfl (c := false) rfl ?_
    refine qg rfl rfl rfl (mv (v := .int _ _) rfl) ?_
    refine qg rfl rfl rfl (neI rfl rfl) ?_
    first | refine q rfl rfl (pkT rfl rfl) ?_ | refine q rfl rfl (pkF rfl rfl) ?_
    refine q rfl rfl (mv (v := .bool _) rfl) ?_
    refine TL.known 77 rfl (c := false) rfl ?_
    refine qg rfl rfl rfl (mv (v := .int _ _) rfl) ?_
    refine qg rfl rfl rfl (neI rfl rfl) ?_
    first | refine q rfl rfl (pkT rfl rfl) ?_ | refine q rfl rfl (pkF rfl rfl) ?_
    refine q rfl rfl (mv (v := .bool _) rfl) ?_
    refine TL.known 81 rfl (c := false) rfl ?_
    refine qg rfl rfl rfl (mv (v := .pointer _) rfl) ?_
    refine eg rfl rfl ?_
    refine cl (kill_nil 0) rfl (picked_nil _) trivial ?_
    intro _ _
    change TL _ _ _ _ _ _ _ _ (sepL [_, _, _, _])
    refine qg rfl rfl rfl (neI rfl rfl) ?_
    first | refine q rfl rfl (pkT rfl rfl) ?_ | refine q rfl rfl (pkF rfl rfl) ?_
    refine q rfl rfl (mv (v := .bool _) rfl) ?_
    refine TL.known 86 rfl (c := false) rfl ?_
    refine qg rfl rfl rfl (mv (v := .pointer _) rfl) ?_
    refine eg rfl rfl ?_
    refine cl live_nil rfl (picked_nil _) trivial ?_
    intro _ _
    change TL _ _ _ _ _ _ _ _ (sepL [_, _, _, _])
    refine qg rfl rfl rfl (len 27 1 rfl rfl) ?_
    refine qg rfl rfl rfl (mv (v := .pointer _) rfl) ?_
    refine eg rfl rfl ?_
    refine cl zombies_nil rfl (picked_nil _) trivial ?_
    intro _ _
    change TL _ _ _ _ _ _ _ _ (sepL [_, _, _, _])
    refine qg rfl rfl rfl (len 27 1 rfl rfl) ?_
    first | refine qg rfl rfl rfl (addI rfl rfl (by omega) (by omega)) ?_ | refine qg rfl rfl rfl (add rfl rfl rfl) ?_
    refine qg rfl rfl rfl (neI rfl rfl) ?_
    first | refine q rfl rfl (pkT rfl rfl) ?_ | refine q rfl rfl (pkF rfl rfl) ?_
    refine q rfl rfl (mv (v := .bool _) rfl) ?_
    refine TL.known 96 rfl (c := false) (by decide) ?_
    refine qg rfl rfl rfl (mv (v := .pointer _) rfl) ?_
    refine eg rfl rfl ?_
    refine cl (age_nil 0 0) rfl (picked_nil _) trivial ?_
    intro _ _
    change TL _ _ _ _ _ _ _ _ (sepL [_, _, _, _])
    first | refine q rfl rfl (pkT rfl rfl) ?_ | refine q rfl rfl (pkF rfl rfl) ?_
    refine TL.nil (nt ?_)
    refine TC.condF rfl ?_
    refine TC.skip (nt ?_)
    refine TC.seq ?_
    refine TC.region ?_
    refine e rfl ?_
    refine cl new_ok rfl (picked_nil _) trivial ?_
    intro tb _
    change TL _ _ _ _ _ _ _ _ (sepL [_, _, _, _, _])
    refine q rfl rfl (asg (v := .pointer _) rfl) ?_
    refine TL.nil (nt ?_)
    refine TC.seq ?_
    refine TC.region ?_
    refine q rfl rfl (bld (cs := refC (List.replicate 256 zeroPl)) (by kernel_rfl)) ?_
    refine e rfl ?_
    refine bx (v := .agg (List.toArray (refC (List.replicate 256 zeroPl)))) (l := refC (List.replicate 256 zeroPl)) rfl (by kernel_rfl) ?_
    intro b4
    refine q rfl rfl (asg (v := .pointer _) rfl) ?_
    refine TL.nil (nt ?_)
    refine TC.seq ?_
    refine TC.seq ?_
    refine TC.region ?_
    refine q rfl rfl (asg (v := .int _ _) rfl) ?_
    refine TL.nil (nt ?_)
    refine TC.block ?_
    refine TC.weak (B := sepL [slc 63 5 (some ⟨tb, 0, none⟩) 256 256 (tabC (List.replicate 256 zeroPl)), slc 46 1 (some ⟨b4, 0, none⟩) 1280 1280 (refC (List.replicate 256 zeroPl)), F]) (ent_take 1 rfl (ent_takeW 0 rfl (slc_of_pts (by kernel_rfl) (by decide)) (ent_take 3 rfl (ent_nil _)))) ?_
    refine TC.loop (ι := Nat × List Pl × List Pl) (fun s => RelT s.2.1 s.2.2 ∧ s.1 ≤ xs.length) (fun s => [(0, .slice ad xs.length cap), (12, .pointer (some ⟨tb, 0, none⟩)), (13, .pointer (some ⟨b4, 0, none⟩)), (14, .int .i64 ((s.1 : Nat) : Int))]) (fun s => sepL [slc 63 5 (some ⟨tb, 0, none⟩) 256 256 (tabC s.2.1), slc 46 1 (some ⟨b4, 0, none⟩) 1280 1280 (refC s.2.2), F]) (fun s => xs.length - s.1) ⟨0, List.replicate 256 zeroPl, List.replicate 256 zeroPl⟩ ⟨RelT.start, Nat.zero_le _⟩ ⟨rfl, rfl, rfl, rfl, trivial⟩ (ent_take 0 rfl (ent_take 0 rfl (ent_take 0 rfl (ent_nil _)))) ?_
    rintro ⟨i, l, m⟩ ⟨hinv, hi⟩ ρ0
    dsimp only [updL] at hinv hi ⊢
    refine TC.seq ?_
    refine TC.seq ?_
    refine TC.region ?_
    refine q rfl rfl (mv (v := .int _ _) rfl) ?_
    refine q rfl rfl (mv (v := .slice _ _ _) rfl) ?_
    refine q rfl rfl (len 48 6 rfl rfl) ?_
    refine q rfl rfl (lss rfl rfl) ?_
    refine TL.nil (nt ?_)
    first | refine TC.condD rfl (fun hlt => ?_) (fun hlt => ?_) | refine TC.cond rfl (fun hlt => ?_) (fun hlt => ?_)
    · have hlt : i < xs.length := by omega
      obtain ⟨t, ht⟩ : ∃ t, xs[i]? = some t := ⟨xs[i], List.getElem?_eq_getElem hlt⟩
      obtain ⟨hkd, hh⟩ := has t (List.mem_of_getElem? ht)
      have hpos : 0 < (hactsC xs).length := by rw [hactsC_length]; omega
      refine TC.skip (nt ?_)
      refine TC.seq ?_
      refine TC.block ?_
      refine TC.seq ?_
      refine TC.region ?_
      refine q rfl rfl (mv (v := .slice _ _ _) rfl) ?_
      refine q rfl rfl (mv (v := .int _ _) rfl) ?_
      first | refine q rfl rfl (ixS 48 6 rfl rfl rfl (by omega) (by first | assumption | (simp [ints_length] <;> omega))) ?_ | refine q rfl rfl (ixJ 48 6 rfl rfl rfl (by omega) (by omega) (by first | assumption | (simp [ints_length] <;> omega))) ?_ | refine q rfl rfl (ix 48 6 rfl rfl rfl (by omega) (by omega) rfl) ?_
      first | refine q rfl rfl (ldN (vs := [_, _, _, _, _, _]) 6 rfl rfl rfl rfl) ?_ | refine q rfl rfl (ldSN (vs := [_, _, _, _, _, _]) 6 rfl rfl (flat_get_rec hactC_sz ht) rfl (by decide)) ?_ | refine q rfl rfl (ldSN (vs := [_, _, _, _, _, _]) 6 rfl rfl rfl rfl (by decide)) ?_
      refine e rfl ?_
      refine al (l := [.int _ _, .int _ _, .int _ _, .int _ _, .int _ _, .int _ _]) rfl rfl ?_
      intro b5
      refine e0 ?_
      refine st (v := .agg #[_, _, _, _, _, _]) (vs := [_, _, _, _, _, _]) 6 rfl rfl rfl rfl rfl rfl (Nat.le_of_ble_eq_true rfl) rfl ?_
      refine TL.nil (nt ?_)
      refine TC.seq ?_
      refine TC.region ?_
      first | refine q rfl rfl (fa 2 rfl rfl) ?_ | refine q rfl rfl (faS 2 rfl rfl (by first | assumption | (simp [ints_length] <;> omega))) ?_
      first | refine q rfl rfl (ld rfl rfl rfl) ?_ | refine q rfl rfl (ldS rfl rfl (flat_get_rec hactC_sz ht)) ?_ | refine q rfl rfl (ldS rfl rfl rfl) ?_
      refine q rfl rfl (asg (v := .int _ _) rfl) ?_
      refine TL.nil (nt ?_)
      refine TC.seq ?_
      refine TC.region ?_
      first | refine q rfl rfl (fa 0 rfl rfl) ?_ | refine q rfl rfl (faS 0 rfl rfl (by first | assumption | (simp [ints_length] <;> omega))) ?_
      first | refine q rfl rfl (ld rfl rfl rfl) ?_ | refine q rfl rfl (ldS rfl rfl (flat_get_rec hactC_sz ht)) ?_ | refine q rfl rfl (ldS rfl rfl rfl) ?_
      refine q rfl rfl (asg (v := .int _ _) rfl) ?_
      refine TL.nil (nt ?_)
      refine TC.cut (ι := Int × Int) (fun s => 0 ≤ s.1 ∧ s.1 ≤ 4294967295 ∧ (s.2 = t.kind ∨ s.2 = t.kind - 2)) (fun s => [(0, .slice ad xs.length cap), (12, .pointer (some ⟨tb, 0, none⟩)), (13, .pointer (some ⟨b4, 0, none⟩)), (14, .int .i64 ((i : Nat) : Int)), (15, .pointer (some ⟨b5, 0, none⟩)), (16, .int .u32 s.1), (17, .int .i64 s.2)]) (fun s => sepL [slc 63 5 (some ⟨tb, 0, none⟩) 256 256 (tabC l), slc 46 1 (some ⟨b4, 0, none⟩) 1280 1280 (refC m), pts b5 48 (hactC t), F]) ?_ ?_
      · refine TC.seq ?_
        refine TC.region ?_
        refine q rfl rfl (mv (v := .int _ _) rfl) ?_
        refine q rfl rfl (eqI rfl rfl) ?_
        refine q rfl rfl (mv (v := .bool _) rfl) ?_
        refine TL.split 119 rfl (fun hk3 => ?_) (fun hk3 => ?_)
        · have hk3 := of_decide_eq_true hk3
          refine qs rfl rfl ?_
          refine qs rfl rfl ?_
          first | refine q rfl rfl (pkT rfl rfl) ?_ | refine q rfl rfl (pkF rfl rfl) ?_
          refine TL.nil (nt ?_)
          refine TC.condT rfl ?_
          obtain ⟨s, hs⟩ : ∃ s, t.kind - 2 = s := ⟨_, rfl⟩
          refine TC.seq ?_
          refine TC.region ?_
          refine q rfl rfl (mv (v := .pointer _) rfl) ?_
          refine q rfl rfl (mv (v := .int _ _) rfl) ?_
          first | refine q rfl rfl (subI rfl rfl (by omega) (by omega)) ?_ | refine q rfl rfl (sub rfl rfl rfl) ?_
          refine e rfl ?_
          refine cl (rall_ok b4 m (t.kind - 2) hinv.okm) rfl (picked_nil _) ⟨_, RdSI.rd⟩ ?_
          intro y1 _
          change TL _ _ _ _ _ _ _ _ (sepL [_, _, _, _, _])
          refine q rfl rfl (asg (v := .slice _ _ _) rfl) ?_
          refine TL.nil (nt ?_)
          refine TC.seq ?_
          refine TC.seq ?_
          refine TC.region ?_
          first | refine q rfl rfl (fa 1 rfl rfl) ?_ | refine q rfl rfl (faS 1 rfl rfl (by first | assumption | (simp [ints_length] <;> omega))) ?_
          first | refine q rfl rfl (ld rfl rfl rfl) ?_ | refine q rfl rfl (ldS rfl rfl rfl) ?_
          refine q rfl rfl (geq rfl rfl) ?_
          refine q rfl rfl (mv (v := .bool _) rfl) ?_
          refine TL.split 130 rfl (fun hn0 => ?_) (fun hn0 => ?_)
          · have hn0 := of_decide_eq_true hn0
            refine qg rfl rfl rfl (mv (v := .slice _ _ _) rfl) ?_
            refine qg rfl rfl rfl (len 26 1 rfl rfl) ?_
            refine qg rfl rfl rfl (gtr rfl rfl) ?_
            first | refine q rfl rfl (pkT rfl rfl) ?_ | refine q rfl rfl (pkF rfl rfl) ?_
            refine TL.nil (nt ?_)
            first | refine TC.condD rfl (fun hln => ?_) (fun hln => ?_) | refine TC.cond rfl (fun hln => ?_) (fun hln => ?_)
            · have hpl : 0 < (allL m (t.kind - 2)).length := by omega
              have hle := allL_le m (t.kind - 2)
              rw [hinv.okm.n] at hle
              obtain ⟨j, hj⟩ : ∃ j : Nat, t.n % ((allL m (t.kind - 2)).length : Int) = j := Int.eq_ofNat_of_zero_le (Int.emod_nonneg _ (by omega))
              have hj2 : j < (allL m (t.kind - 2)).length := by have := Int.emod_lt_of_pos t.n (show 0 < ((allL m (t.kind - 2)).length : Int) by omega); omega
              obtain ⟨z, hz⟩ : ∃ z, (allL m (t.kind - 2))[j]? = some z := ⟨_, List.getElem?_eq_getElem hj2⟩
              have hzb := allL_bound hinv.okm (List.mem_of_getElem? hz)
              have hpos3 : 0 < (nums .u32 (allL m (t.kind - 2))).length := by rw [nums_length]; omega
              refine TC.region ?_
              refine q rfl rfl (mv (v := .slice _ _ _) rfl) ?_
              first | refine q rfl rfl (fa 1 rfl rfl) ?_ | refine q rfl rfl (faS 1 rfl rfl (by first | assumption | (simp [ints_length] <;> omega))) ?_
              first | refine q rfl rfl (ld rfl rfl rfl) ?_ | refine q rfl rfl (ldS rfl rfl (nums_get hz)) ?_ | refine q rfl rfl (ldS rfl rfl rfl) ?_
              refine q rfl rfl (mv (v := .slice _ _ _) rfl) ?_
              refine q rfl rfl (len 26 1 rfl rfl) ?_
              first | refine q rfl rfl (remI rfl rfl (by omega) (by omega)) ?_ | refine q rfl rfl (rem rfl rfl (by omega) rfl) ?_
              rw [hj]
              first | refine q rfl rfl (ixS 26 1 rfl rfl rfl (by omega) (by first | assumption | (simp [ints_length] <;> omega))) ?_ | refine q rfl rfl (ixJ 26 1 rfl rfl rfl (by omega) (by omega) (by first | assumption | (simp [ints_length] <;> omega))) ?_ | refine q rfl rfl (ix 26 1 rfl rfl rfl (by omega) (by omega) rfl) ?_
              first | refine q rfl rfl (ld rfl rfl rfl) ?_ | refine q rfl rfl (ldS rfl rfl (nums_get hz)) ?_ | refine q rfl rfl (ldS rfl rfl rfl) ?_
              refine q rfl rfl (asg (v := .int _ _) rfl) ?_
              refine TL.nil (nt ?_)
              refine TC.region ?_
              refine q rfl rfl (mv (v := .int _ _) rfl) ?_
              first | refine q rfl rfl (subI rfl rfl (by omega) (by omega)) ?_ | refine q rfl rfl (sub rfl rfl rfl) ?_
              refine q rfl rfl (asg (v := .int _ _) rfl) ?_
              refine TL.nil (nt ?_)
              exact ⟨rfl, ⟨z, t.kind - 2⟩, ⟨hzb.1, hzb.2, .inr rfl⟩, ⟨rfl, rfl, rfl, rfl, rfl, rfl, rfl, trivial⟩, (ent_take 2 rfl (ent_take 2 rfl (ent_take 1 rfl (ent_take 1 rfl (ent_nil _)))))⟩
            · refine TC.skip (nt ?_)
              refine TC.region ?_
              refine q rfl rfl (mv (v := .int _ _) rfl) ?_
              first | refine q rfl rfl (subI rfl rfl (by omega) (by omega)) ?_ | refine q rfl rfl (sub rfl rfl rfl) ?_
              refine q rfl rfl (asg (v := .int _ _) rfl) ?_
              refine TL.nil (nt ?_)
              exact ⟨rfl, ⟨t.h, t.kind - 2⟩, ⟨hh.1, hh.2, .inr rfl⟩, ⟨rfl, rfl, rfl, rfl, rfl, rfl, rfl, trivial⟩, (ent_take 2 rfl (ent_take 2 rfl (ent_take 1 rfl (ent_take 1 rfl (ent_nil _)))))⟩
          · have hn0 := of_decide_eq_false hn0
            refine qs rfl rfl ?_
            refine qs rfl rfl ?_
            refine qs rfl rfl ?_
            first | refine q rfl rfl (pkT rfl rfl) ?_ | refine q rfl rfl (pkF rfl rfl) ?_
            refine TL.nil (nt ?_)
            refine TC.condF rfl ?_
            refine TC.skip (nt ?_)
            refine TC.region ?_
            refine q rfl rfl (mv (v := .int _ _) rfl) ?_
            first | refine q rfl rfl (subI rfl rfl (by omega) (by omega)) ?_ | refine q rfl rfl (sub rfl rfl rfl) ?_
            refine q rfl rfl (asg (v := .int _ _) rfl) ?_
            refine TL.nil (nt ?_)
            exact ⟨rfl, ⟨t.h, t.kind - 2⟩, ⟨hh.1, hh.2, .inr rfl⟩, ⟨rfl, rfl, rfl, rfl, rfl, rfl, rfl, trivial⟩, (ent_take 2 rfl (ent_take 2 rfl (ent_take 1 rfl (ent_take 1 rfl (ent_nil _)))))⟩
        · have hk3 := of_decide_eq_false hk3
          refine qg rfl rfl rfl (mv (v := .int _ _) rfl) ?_
          refine qg rfl rfl rfl (eqI rfl rfl) ?_
          first | refine q rfl rfl (pkT rfl rfl) ?_ | refine q rfl rfl (pkF rfl rfl) ?_
          refine TL.nil (nt ?_)
          first | refine TC.condD rfl (fun hk4 => ?_) (fun hk4 => ?_) | refine TC.cond rfl (fun hk4 => ?_) (fun hk4 => ?_)
          · obtain ⟨s, hs⟩ : ∃ s, t.kind - 2 = s := ⟨_, rfl⟩
            refine TC.seq ?_
            refine TC.region ?_
            refine q rfl rfl (mv (v := .pointer _) rfl) ?_
            refine q rfl rfl (mv (v := .int _ _) rfl) ?_
            first | refine q rfl rfl (subI rfl rfl (by omega) (by omega)) ?_ | refine q rfl rfl (sub rfl rfl rfl) ?_
            refine e rfl ?_
            refine cl (rall_ok b4 m (t.kind - 2) hinv.okm) rfl (picked_nil _) ⟨_, RdSI.rd⟩ ?_
            intro y1 _
            change TL _ _ _ _ _ _ _ _ (sepL [_, _, _, _, _])
            refine q rfl rfl (asg (v := .slice _ _ _) rfl) ?_
            refine TL.nil (nt ?_)
            refine TC.seq ?_
            refine TC.seq ?_
            refine TC.region ?_
            first | refine q rfl rfl (fa 1 rfl rfl) ?_ | refine q rfl rfl (faS 1 rfl rfl (by first | assumption | (simp [ints_length] <;> omega))) ?_
            first | refine q rfl rfl (ld rfl rfl rfl) ?_ | refine q rfl rfl (ldS rfl rfl rfl) ?_
            refine q rfl rfl (geq rfl rfl) ?_
            refine q rfl rfl (mv (v := .bool _) rfl) ?_
            refine TL.split 130 rfl (fun hn0 => ?_) (fun hn0 => ?_)
            · have hn0 := of_decide_eq_true hn0
              refine qg rfl rfl rfl (mv (v := .slice _ _ _) rfl) ?_
              refine qg rfl rfl rfl (len 26 1 rfl rfl) ?_
              refine qg rfl rfl rfl (gtr rfl rfl) ?_
              first | refine q rfl rfl (pkT rfl rfl) ?_ | refine q rfl rfl (pkF rfl rfl) ?_
              refine TL.nil (nt ?_)
              first | refine TC.condD rfl (fun hln => ?_) (fun hln => ?_) | refine TC.cond rfl (fun hln => ?_) (fun hln => ?_)
              · have hpl : 0 < (allL m (t.kind - 2)).length := by omega
                have hle := allL_le m (t.kind - 2)
                rw [hinv.okm.n] at hle
                obtain ⟨j, hj⟩ : ∃ j : Nat, t.n % ((allL m (t.kind - 2)).length : Int) = j := Int.eq_ofNat_of_zero_le (Int.emod_nonneg _ (by omega))
                have hj2 : j < (allL m (t.kind - 2)).length := by have := Int.emod_lt_of_pos t.n (show 0 < ((allL m (t.kind - 2)).length : Int) by omega); omega
                obtain ⟨z, hz⟩ : ∃ z, (allL m (t.kind - 2))[j]? = some z := ⟨_, List.getElem?_eq_getElem hj2⟩
                have hzb := allL_bound hinv.okm (List.mem_of_getElem? hz)
                have hpos3 : 0 < (nums .u32 (allL m (t.kind - 2))).length := by rw [nums_length]; omega
                refine TC.region ?_
                refine q rfl rfl (mv (v := .slice _ _ _) rfl) ?_
                first | refine q rfl rfl (fa 1 rfl rfl) ?_ | refine q rfl rfl (faS 1 rfl rfl (by first | assumption | (simp [ints_length] <;> omega))) ?_
                first | refine q rfl rfl (ld rfl rfl rfl) ?_ | refine q rfl rfl (ldS rfl rfl (nums_get hz)) ?_ | refine q rfl rfl (ldS rfl rfl rfl) ?_
                refine q rfl rfl (mv (v := .slice _ _ _) rfl) ?_
                refine q rfl rfl (len 26 1 rfl rfl) ?_
                first | refine q rfl rfl (remI rfl rfl (by omega) (by omega)) ?_ | refine q rfl rfl (rem rfl rfl (by omega) rfl) ?_
                rw [hj]
                first | refine q rfl rfl (ixS 26 1 rfl rfl rfl (by omega) (by first | assumption | (simp [ints_length] <;> omega))) ?_ | refine q rfl rfl (ixJ 26 1 rfl rfl rfl (by omega) (by omega) (by first | assumption | (simp [ints_length] <;> omega))) ?_ | refine q rfl rfl (ix 26 1 rfl rfl rfl (by omega) (by omega) rfl) ?_
                first | refine q rfl rfl (ld rfl rfl rfl) ?_ | refine q rfl rfl (ldS rfl rfl (nums_get hz)) ?_ | refine q rfl rfl (ldS rfl rfl rfl) ?_
                refine q rfl rfl (asg (v := .int _ _) rfl) ?_
                refine TL.nil (nt ?_)
                refine TC.region ?_
                refine q rfl rfl (mv (v := .int _ _) rfl) ?_
                first | refine q rfl rfl (subI rfl rfl (by omega) (by omega)) ?_ | refine q rfl rfl (sub rfl rfl rfl) ?_
                refine q rfl rfl (asg (v := .int _ _) rfl) ?_
                refine TL.nil (nt ?_)
                exact ⟨rfl, ⟨z, t.kind - 2⟩, ⟨hzb.1, hzb.2, .inr rfl⟩, ⟨rfl, rfl, rfl, rfl, rfl, rfl, rfl, trivial⟩, (ent_take 2 rfl (ent_take 2 rfl (ent_take 1 rfl (ent_take 1 rfl (ent_nil _)))))⟩
              · refine TC.skip (nt ?_)
                refine TC.region ?_
                refine q rfl rfl (mv (v := .int _ _) rfl) ?_
                first | refine q rfl rfl (subI rfl rfl (by omega) (by omega)) ?_ | refine q rfl rfl (sub rfl rfl rfl) ?_
                refine q rfl rfl (asg (v := .int _ _) rfl) ?_
                refine TL.nil (nt ?_)
                exact ⟨rfl, ⟨t.h, t.kind - 2⟩, ⟨hh.1, hh.2, .inr rfl⟩, ⟨rfl, rfl, rfl, rfl, rfl, rfl, rfl, trivial⟩, (ent_take 2 rfl (ent_take 2 rfl (ent_take 1 rfl (ent_take 1 rfl (ent_nil _)))))⟩
            · have hn0 := of_decide_eq_false hn0
              refine qs rfl rfl ?_
              refine qs rfl rfl ?_
              refine qs rfl rfl ?_
              first | refine q rfl rfl (pkT rfl rfl) ?_ | refine q rfl rfl (pkF rfl rfl) ?_
              refine TL.nil (nt ?_)
              refine TC.condF rfl ?_
              refine TC.skip (nt ?_)
              refine TC.region ?_
              refine q rfl rfl (mv (v := .int _ _) rfl) ?_
              first | refine q rfl rfl (subI rfl rfl (by omega) (by omega)) ?_ | refine q rfl rfl (sub rfl rfl rfl) ?_
              refine q rfl rfl (asg (v := .int _ _) rfl) ?_
              refine TL.nil (nt ?_)
              exact ⟨rfl, ⟨t.h, t.kind - 2⟩, ⟨hh.1, hh.2, .inr rfl⟩, ⟨rfl, rfl, rfl, rfl, rfl, rfl, rfl, trivial⟩, (ent_take 2 rfl (ent_take 2 rfl (ent_take 1 rfl (ent_take 1 rfl (ent_nil _)))))⟩
          · refine TC.skip (nt ?_)
            exact ⟨rfl, ⟨t.h, t.kind⟩, ⟨hh.1, hh.2, .inl rfl⟩, ⟨rfl, rfl, rfl, rfl, rfl, rfl, rfl, trivial⟩, (ent_take 1 rfl (ent_take 1 rfl (ent_take 0 rfl (ent_take 0 rfl (ent_nil _)))))⟩
      · rintro ⟨h, kd⟩ ⟨hh0, hh1, hkd2⟩ ρ1
        dsimp only [updL] at hh0 hh1 hkd2 ⊢
        refine TC.seq ?_
        refine TC.region ?_
        refine q rfl rfl (asg (v := .bool _) rfl) ?_
        refine TL.nil (nt ?_)
        refine TC.cut (ι := List Pl × List Pl) (fun s => RelT s.1 s.2) (fun s => [(0, .slice ad xs.length cap), (12, .pointer (some ⟨tb, 0, none⟩)), (13, .pointer (some ⟨b4, 0, none⟩)), (14, .int .i64 ((i : Nat) : Int)), (15, .pointer (some ⟨b5, 0, none⟩)), (16, .int .u32 h), (19, .bool true)]) (fun s => sepL [slc 63 5 (some ⟨tb, 0, none⟩) 256 256 (tabC s.1), slc 46 1 (some ⟨b4, 0, none⟩) 1280 1280 (refC s.2), pts b5 48 (hactC t), F]) ?_ ?_
        · have hhb : 0 ≤ h ∧ h ≤ 4294967295 := ⟨hh0, hh1⟩
          refine TC.seq ?_
          refine TC.region ?_
          refine q rfl rfl (mv (v := .int _ _) rfl) ?_
          refine TL.nil (nt ?_)
          refine TC.block ?_
          refine TC.seq ?_
          refine TC.region ?_
          refine q rfl rfl (eqI rfl rfl) ?_
          refine q rfl rfl (asg (v := .bool _) rfl) ?_
          refine TL.nil (nt ?_)
          first | refine TC.condD rfl (fun hk0 => ?_) (fun hk0 => ?_) | refine TC.cond rfl (fun hk0 => ?_) (fun hk0 => ?_)
          · obtain ⟨e1, e2⟩ := hinv.put t.o
            refine TC.seq ?_
            refine TC.region ?_
            refine q rfl rfl (mv (v := .pointer _) rfl) ?_
            first | refine q rfl rfl (fa 3 rfl rfl) ?_ | refine q rfl rfl (faS 3 rfl rfl (by first | assumption | (simp [ints_length] <;> omega))) ?_
            first | refine q rfl rfl (ldN (vs := ints [_, _, _]) 3 rfl rfl rfl rfl) ?_ | refine q rfl rfl (ldSN (vs := ints [_, _, _]) 3 rfl rfl rfl rfl (by decide)) ?_
            refine e rfl ?_
            refine cl (put_ok tb l t.o hinv.okl) rfl (picked_cons 0 rfl (picked_nil _)) trivial ?_
            intro _ _
            change TL _ _ _ _ _ _ _ _ (sepL [_, _, _, _])
            refine q rfl rfl (mv (v := .tuple _) rfl) ?_
            refine q rfl rfl (pu (v := .int _ _) (fun _ => rfl)) ?_
            refine q rfl rfl (pu (v := .int _ _) (fun _ => rfl)) ?_
            refine q rfl rfl (asg (v := .int _ _) rfl) ?_
            refine q rfl rfl (asg (v := .int _ _) rfl) ?_
            refine TL.nil (nt ?_)
            refine TC.seq ?_
            refine TC.region ?_
            refine q rfl rfl (mv (v := .pointer _) rfl) ?_
            first | refine q rfl rfl (fa 3 rfl rfl) ?_ | refine q rfl rfl (faS 3 rfl rfl (by first | assumption | (simp [ints_length] <;> omega))) ?_
            first | refine q rfl rfl (ldN (vs := ints [_, _, _]) 3 rfl rfl rfl rfl) ?_ | refine q rfl rfl (ldSN (vs := ints [_, _, _]) 3 rfl rfl rfl rfl (by decide)) ?_
            refine e rfl ?_
            refine cl (rput_ok b4 m t.o hinv.okm) rfl (picked_cons 1 rfl (picked_nil _)) trivial ?_
            intro _ _
            change TL _ _ _ _ _ _ _ _ (sepL [_, _, _, _])
            rw [e1]
            refine q rfl rfl (mv (v := .tuple _) rfl) ?_
            refine q rfl rfl (pu (v := .int _ _) (fun _ => rfl)) ?_
            refine q rfl rfl (pu (v := .int _ _) (fun _ => rfl)) ?_
            refine q rfl rfl (asg (v := .int _ _) rfl) ?_
            refine q rfl rfl (asg (v := .int _ _) rfl) ?_
            refine TL.nil (nt ?_)
            refine TC.region ?_
            refine q rfl rfl (mv (v := .int _ _) rfl) ?_
            refine q rfl rfl (mv (v := .int _ _) rfl) ?_
            refine q rfl rfl (eqI rfl rfl) ?_
            refine q rfl rfl (mv (v := .bool _) rfl) ?_
            refine TL.known 165 rfl (c := true) (decide_eq_true rfl) ?_
            refine qg rfl rfl rfl (mv (v := .int _ _) rfl) ?_
            refine qg rfl rfl rfl (mv (v := .int _ _) rfl) ?_
            refine qg rfl rfl rfl (eqI rfl rfl) ?_
            first | refine q rfl rfl (pkT rfl rfl) ?_ | refine q rfl rfl (pkF rfl rfl) ?_
            refine q rfl rfl (asg (v := .bool _) rfl) ?_
            refine TL.nil (nb (nt ?_))
            exact ⟨rfl, ⟨(putR l t.o).1, (putR m t.o).1⟩, e2, ⟨rfl, rfl, rfl, rfl, rfl, rfl, (by first | rfl | exact congrArg Value.bool (by simp)), trivial⟩, (ent_take 1 rfl (ent_take 0 rfl (ent_take 0 rfl (ent_take 0 rfl (ent_nil _)))))⟩
          · refine TC.seq ?_
            refine TC.region ?_
            refine q rfl rfl (eqI rfl rfl) ?_
            refine q rfl rfl (asg (v := .bool _) rfl) ?_
            refine TL.nil (nt ?_)
            first | refine TC.condD rfl (fun hk1 => ?_) (fun hk1 => ?_) | refine TC.cond rfl (fun hk1 => ?_) (fun hk1 => ?_)
            · obtain ⟨e1, e2⟩ := hinv.kill h
              refine TC.region ?_
              refine q rfl rfl (mv (v := .pointer _) rfl) ?_
              refine q rfl rfl (mv (v := .int _ _) rfl) ?_
              refine e rfl ?_
              refine cl (kill_ok tb l h hinv.okl hhb) rfl (picked_cons 0 rfl (picked_nil _)) trivial ?_
              intro _ _
              change TL _ _ _ _ _ _ _ _ (sepL [_, _, _, _])
              refine q rfl rfl (mv (v := .pointer _) rfl) ?_
              refine q rfl rfl (mv (v := .int _ _) rfl) ?_
              refine e rfl ?_
              refine cl (rkill_ok b4 m h hinv.okm hhb) rfl (picked_cons 1 rfl (picked_nil _)) trivial ?_
              intro _ _
              change TL _ _ _ _ _ _ _ _ (sepL [_, _, _, _])
              rw [e1]
              refine q rfl rfl (eqI rfl rfl) ?_
              refine q rfl rfl (asg (v := .bool _) rfl) ?_
              refine TL.nil (nb (nt ?_))
              exact ⟨rfl, ⟨(killR l h).1, (killR m h).1⟩, e2, ⟨rfl, rfl, rfl, rfl, rfl, rfl, (by first | rfl | exact congrArg Value.bool (by simp)), trivial⟩, (ent_take 1 rfl (ent_take 0 rfl (ent_take 0 rfl (ent_take 0 rfl (ent_nil _)))))⟩
            · refine TC.seq ?_
              refine TC.region ?_
              refine q rfl rfl (eqI rfl rfl) ?_
              refine q rfl rfl (asg (v := .bool _) rfl) ?_
              refine TL.nil (nt ?_)
              first | refine TC.condD rfl (fun hk2 => ?_) (fun hk2 => ?_) | refine TC.cond rfl (fun hk2 => ?_) (fun hk2 => ?_)
              · obtain ⟨e1, e2⟩ := hinv.free h
                refine TC.seq ?_
                refine TC.region ?_
                refine q rfl rfl (mv (v := .pointer _) rfl) ?_
                refine q rfl rfl (mv (v := .int _ _) rfl) ?_
                refine e rfl ?_
                refine cl (free_ok tb l h hinv.okl hhb) rfl (picked_cons 0 rfl (picked_nil _)) trivial ?_
                intro _ _
                change TL _ _ _ _ _ _ _ _ (sepL [_, _, _, _])
                refine q rfl rfl (mv (v := .tuple _) rfl) ?_
                refine q rfl rfl (pu (v := .agg (List.toArray (ints [_, _, _]))) (fun _ => rfl)) ?_
                refine q rfl rfl (pu (v := .int _ _) (fun _ => rfl)) ?_
                refine e rfl ?_
                refine al (l := ints [_, _, _]) rfl rfl ?_
                intro b6
                refine e0 ?_
                refine st (v := .agg (List.toArray (ints [_, _, _]))) (vs := ints [_, _, _]) 3 rfl rfl rfl rfl rfl rfl (Nat.le_of_ble_eq_true rfl) rfl ?_
                refine q rfl rfl (asg (v := .int _ _) rfl) ?_
                refine TL.nil (nt ?_)
                refine TC.seq ?_
                refine TC.region ?_
                refine q rfl rfl (mv (v := .pointer _) rfl) ?_
                refine q rfl rfl (mv (v := .int _ _) rfl) ?_
                refine e rfl ?_
                refine cl (rfree_ok b4 m h hinv.okm hhb) rfl (picked_cons 2 rfl (picked_nil _)) trivial ?_
                intro _ _
                change TL _ _ _ _ _ _ _ _ (sepL [_, _, _, _, _])
                rw [e1]
                refine q rfl rfl (mv (v := .tuple _) rfl) ?_
                refine q rfl rfl (pu (v := .agg (List.toArray (ints [_, _, _]))) (fun _ => rfl)) ?_
                refine q rfl rfl (pu (v := .int _ _) (fun _ => rfl)) ?_
                refine e rfl ?_
                refine al (l := ints [_, _, _]) rfl rfl ?_
                intro b7
                refine e0 ?_
                refine st (v := .agg (List.toArray (ints [_, _, _]))) (vs := ints [_, _, _]) 3 rfl rfl rfl rfl rfl rfl (Nat.le_of_ble_eq_true rfl) rfl ?_
                refine q rfl rfl (asg (v := .int _ _) rfl) ?_
                refine TL.nil (nt ?_)
                refine TC.region ?_
                first | refine q rfl rfl (ldN (vs := ints [_, _, _]) 3 rfl rfl rfl rfl) ?_ | refine q rfl rfl (ldSN (vs := ints [_, _, _]) 3 rfl rfl rfl rfl (by decide)) ?_
                first | refine q rfl rfl (ldN (vs := ints [_, _, _]) 3 rfl rfl rfl rfl) ?_ | refine q rfl rfl (ldSN (vs := ints [_, _, _]) 3 rfl rfl rfl rfl (by decide)) ?_
                refine q rfl rfl (eqS 3 (by kernel_rfl) rfl rfl rfl rfl) ?_
                refine q rfl rfl (mv (v := .bool _) rfl) ?_
                refine TL.known 196 rfl (c := true) (decide_eq_true rfl) ?_
                refine qg rfl rfl rfl (mv (v := .int _ _) rfl) ?_
                refine qg rfl rfl rfl (mv (v := .int _ _) rfl) ?_
                refine qg rfl rfl rfl (eqI rfl rfl) ?_
                first | refine q rfl rfl (pkT rfl rfl) ?_ | refine q rfl rfl (pkF rfl rfl) ?_
                refine q rfl rfl (asg (v := .bool _) rfl) ?_
                refine TL.nil (nb (nt ?_))
                exact ⟨rfl, ⟨(freeR l h).1, (rfreeR m h).1⟩, e2, ⟨rfl, rfl, rfl, rfl, rfl, rfl, (by first | rfl | exact congrArg Value.bool (by simp)), trivial⟩, (ent_take 3 rfl (ent_take 1 rfl (ent_take 2 rfl (ent_take 2 rfl (ent_nil _)))))⟩
              · refine TC.seq ?_
                refine TC.region ?_
                refine q rfl rfl (eqI rfl rfl) ?_
                refine q rfl rfl (asg (v := .bool _) rfl) ?_
                refine TL.nil (nt ?_)
                first | refine TC.condD rfl (fun hk5 => ?_) (fun hk5 => ?_) | refine TC.cond rfl (fun hk5 => ?_) (fun hk5 => ?_)
                · obtain ⟨e1, e2⟩ := hinv.age t.n t.h
                  refine TC.draw _ [] [(0, false), (1, false), (2, false), (3, false), (4, false), (5, false), (7, false), (8, false), (9, false), (10, false), (11, false), (12, false), (6, true), (13, true), (14, false), (15, false)] (by kernel_rfl) (by kernel_rfl) (ent_take 2 rfl (ent_take 2 rfl (ent_nil _))) ?_
                  refine dq rfl rfl rfl (mv (v := .pointer _) rfl) ?_
                  first | refine dq rfl rfl rfl (fa 1 rfl rfl) ?_ | refine dq rfl rfl rfl (faS 1 rfl rfl (by first | assumption | (simp [ints_length] <;> omega))) ?_
                  first | refine dq rfl rfl rfl (ld rfl rfl rfl) ?_ | refine dq rfl rfl rfl (ldS rfl rfl rfl) ?_
                  first | refine dq rfl rfl rfl (fa 2 rfl rfl) ?_ | refine dq rfl rfl rfl (faS 2 rfl rfl (by first | assumption | (simp [ints_length] <;> omega))) ?_
                  first | refine dq rfl rfl rfl (ld rfl rfl rfl) ?_ | refine dq rfl rfl rfl (ldS rfl rfl rfl) ?_
                  first | refine dq rfl rfl rfl (conv .u32 .i64 rfl rfl rfl (wi64 (by omega) (by omega))) ?_ | refine dq rfl rfl rfl (conv .u32 .i64 rfl rfl rfl rfl) ?_
                  refine dq rfl rfl rfl (mv (v := .pointer _) rfl) ?_
                  first | refine dq rfl rfl rfl (fa 1 rfl rfl) ?_ | refine dq rfl rfl rfl (faS 1 rfl rfl (by first | assumption | (simp [ints_length] <;> omega))) ?_
                  first | refine dq rfl rfl rfl (ld rfl rfl rfl) ?_ | refine dq rfl rfl rfl (ldS rfl rfl rfl) ?_
                  first | refine dq rfl rfl rfl (fa 2 rfl rfl) ?_ | refine dq rfl rfl rfl (faS 2 rfl rfl (by first | assumption | (simp [ints_length] <;> omega))) ?_
                  first | refine dq rfl rfl rfl (ld rfl rfl rfl) ?_ | refine dq rfl rfl rfl (ldS rfl rfl rfl) ?_
                  first | refine dq rfl rfl rfl (conv .u32 .i64 rfl rfl rfl (wi64 (by omega) (by omega))) ?_ | refine dq rfl rfl rfl (conv .u32 .i64 rfl rfl rfl rfl) ?_
                  refine de rfl rfl ?_
                  refine cl (age_ok tb l t.n t.h hinv.okl) rfl (picked_cons 0 rfl (picked_nil _)) trivial ?_
                  intro _ _
                  change ent _ _ ∧ TD _ _ _ _ _ _ _ _ _ _ (sepL [_, _, _, _])
                  refine ⟨(by repeat (first | exact ent_nil _ | refine ent_take 0 rfl ?_ | refine ent_take 1 rfl ?_ | refine ent_take 2 rfl ?_ | refine ent_take 3 rfl ?_ | refine ent_take 4 rfl ?_ | refine ent_take 5 rfl ?_ | refine ent_take 6 rfl ?_ | refine ent_take 7 rfl ?_)), ?_⟩
                  refine de rfl rfl ?_
                  refine cl (rage_ok b4 m t.n t.h hinv.okm) rfl (picked_cons 1 rfl (picked_nil _)) trivial ?_
                  intro _ _
                  change ent _ _ ∧ TD _ _ _ _ _ _ _ _ _ _ (sepL [_, _, _, _])
                  refine ⟨(by repeat (first | exact ent_nil _ | refine ent_take 0 rfl ?_ | refine ent_take 1 rfl ?_ | refine ent_take 2 rfl ?_ | refine ent_take 3 rfl ?_ | refine ent_take 4 rfl ?_ | refine ent_take 5 rfl ?_ | refine ent_take 6 rfl ?_ | refine ent_take 7 rfl ?_)), ?_⟩
                  rw [e1]
                  refine dq rfl rfl rfl (pu (v := .bool _) (fun _ => rfl)) ?_
                  refine dq rfl rfl rfl (asg (v := .bool _) rfl) ?_
                  refine TD.nil (nb (nt ?_))
                  exact ⟨rfl, ⟨(ageR l t.n t.h).1, (ageR m t.n t.h).1⟩, e2, ⟨rfl, rfl, rfl, rfl, rfl, rfl, (by first | rfl | exact congrArg Value.bool (by simp)), trivial⟩, (ent_take 1 rfl (ent_take 0 rfl (ent_take 0 rfl (ent_take 0 rfl (ent_nil _)))))⟩
                · refine TC.skip (nb (nt ?_))
                  exact ⟨rfl, ⟨l, m⟩, hinv, ⟨rfl, rfl, rfl, rfl, rfl, rfl, (by first | rfl | exact congrArg Value.bool (by simp)), trivial⟩, (ent_take 0 rfl (ent_take 0 rfl (ent_take 0 rfl (ent_take 0 rfl (ent_nil _)))))⟩
        · rintro ⟨l2, m2⟩ hinv2 ρ2
          dsimp only [updL] at hinv2 ⊢
          have hhb : 0 ≤ h ∧ h ≤ 4294967295 := ⟨hh0, hh1⟩
          have hge := hinv2.get h
          have hpe := hinv2.peek h
          have hae := hinv2.all 0
          refine TC.seq ?_
          refine TC.region ?_
          refine q rfl rfl (mv (v := .pointer _) rfl) ?_
          refine q rfl rfl (mv (v := .int _ _) rfl) ?_
          refine e rfl ?_
          refine cl (get_ok tb l2 h hinv2.okl hhb) rfl (picked_nil _) ⟨_, RdSI.rd⟩ ?_
          intro _ _
          change TL _ _ _ _ _ _ _ _ (sepL [_, _, _, _])
          refine q rfl rfl (mv (v := .tuple _) rfl) ?_
          refine q rfl rfl (pu (v := .agg (List.toArray (ints [_, _, _]))) (fun _ => rfl)) ?_
          refine q rfl rfl (pu (v := .int _ _) (fun _ => rfl)) ?_
          refine e rfl ?_
          refine al (l := ints [_, _, _]) rfl rfl ?_
          intro b8
          refine e0 ?_
          refine st (v := .agg (List.toArray (ints [_, _, _]))) (vs := ints [_, _, _]) 3 rfl rfl rfl rfl rfl rfl (Nat.le_of_ble_eq_true rfl) rfl ?_
          refine q rfl rfl (asg (v := .int _ _) rfl) ?_
          refine TL.nil (nt ?_)
          refine TC.seq ?_
          refine TC.region ?_
          refine q rfl rfl (mv (v := .pointer _) rfl) ?_
          refine q rfl rfl (mv (v := .int _ _) rfl) ?_
          refine e rfl ?_
          refine cl (rget_ok b4 m2 h hinv2.okm hhb) rfl (picked_nil _) ⟨_, RdSI.rd⟩ ?_
          intro _ _
          change TL _ _ _ _ _ _ _ _ (sepL [_, _, _, _, _])
          rw [hge]
          refine q rfl rfl (mv (v := .tuple _) rfl) ?_
          refine q rfl rfl (pu (v := .agg (List.toArray (ints [_, _, _]))) (fun _ => rfl)) ?_
          refine q rfl rfl (pu (v := .int _ _) (fun _ => rfl)) ?_
          refine e rfl ?_
          refine al (l := ints [_, _, _]) rfl rfl ?_
          intro b9
          refine e0 ?_
          refine st (v := .agg (List.toArray (ints [_, _, _]))) (vs := ints [_, _, _]) 3 rfl rfl rfl rfl rfl rfl (Nat.le_of_ble_eq_true rfl) rfl ?_
          refine q rfl rfl (asg (v := .int _ _) rfl) ?_
          refine TL.nil (nt ?_)
          refine TC.seq ?_
          refine TC.region ?_
          refine q rfl rfl (mv (v := .pointer _) rfl) ?_
          refine q rfl rfl (mv (v := .int _ _) rfl) ?_
          refine e rfl ?_
          refine cl (peek_ok tb l2 h hinv2.okl hhb) rfl (picked_nil _) ⟨_, RdSI.rd⟩ ?_
          intro _ _
          change TL _ _ _ _ _ _ _ _ (sepL [_, _, _, _, _, _])
          refine q rfl rfl (mv (v := .tuple _) rfl) ?_
          refine q rfl rfl (pu (v := .agg (List.toArray (ints [_, _, _]))) (fun _ => rfl)) ?_
          refine q rfl rfl (pu (v := .int _ _) (fun _ => rfl)) ?_
          refine e rfl ?_
          refine al (l := ints [_, _, _]) rfl rfl ?_
          intro b10
          refine e0 ?_
          refine st (v := .agg (List.toArray (ints [_, _, _]))) (vs := ints [_, _, _]) 3 rfl rfl rfl rfl rfl rfl (Nat.le_of_ble_eq_true rfl) rfl ?_
          refine q rfl rfl (asg (v := .int _ _) rfl) ?_
          refine TL.nil (nt ?_)
          refine TC.seq ?_
          refine TC.region ?_
          refine q rfl rfl (mv (v := .pointer _) rfl) ?_
          refine q rfl rfl (mv (v := .int _ _) rfl) ?_
          refine e rfl ?_
          refine cl (rpeek_ok b4 m2 h hinv2.okm hhb) rfl (picked_nil _) ⟨_, RdSI.rd⟩ ?_
          intro _ _
          change TL _ _ _ _ _ _ _ _ (sepL [_, _, _, _, _, _, _])
          rw [hpe]
          refine q rfl rfl (mv (v := .tuple _) rfl) ?_
          refine q rfl rfl (pu (v := .agg (List.toArray (ints [_, _, _]))) (fun _ => rfl)) ?_
          refine q rfl rfl (pu (v := .int _ _) (fun _ => rfl)) ?_
          refine e rfl ?_
          refine al (l := ints [_, _, _]) rfl rfl ?_
          intro b11
          refine e0 ?_
          refine st (v := .agg (List.toArray (ints [_, _, _]))) (vs := ints [_, _, _]) 3 rfl rfl rfl rfl rfl rfl (Nat.le_of_ble_eq_true rfl) rfl ?_
          refine q rfl rfl (asg (v := .int _ _) rfl) ?_
          refine TL.nil (nt ?_)
          refine TC.seq ?_
          refine TC.region ?_
          refine q rfl rfl (mv (v := .bool _) rfl) ?_
          first | refine q rfl rfl (notD rfl) ?_ | refine q rfl rfl (notB rfl) ?_
          refine q rfl rfl (mv (v := .bool _) rfl) ?_
          refine TL.known 244 rfl (c := false) rfl ?_
          first | refine qg rfl rfl rfl (ldN (vs := ints [_, _, _]) 3 rfl rfl rfl rfl) ?_ | refine qg rfl rfl rfl (ldSN (vs := ints [_, _, _]) 3 rfl rfl rfl rfl (by decide)) ?_
          first | refine qg rfl rfl rfl (ldN (vs := ints [_, _, _]) 3 rfl rfl rfl rfl) ?_ | refine qg rfl rfl rfl (ldSN (vs := ints [_, _, _]) 3 rfl rfl rfl rfl (by decide)) ?_
          refine qg rfl rfl rfl (neS 3 (by kernel_rfl) rfl rfl rfl rfl) ?_
          first | refine q rfl rfl (pkT rfl rfl) ?_ | refine q rfl rfl (pkF rfl rfl) ?_
          refine q rfl rfl (mv (v := .bool _) rfl) ?_
          refine TL.known 249 rfl (c := false) (by simp) ?_
          refine qg rfl rfl rfl (mv (v := .int _ _) rfl) ?_
          refine qg rfl rfl rfl (mv (v := .int _ _) rfl) ?_
          refine qg rfl rfl rfl (neI rfl rfl) ?_
          first | refine q rfl rfl (pkT rfl rfl) ?_ | refine q rfl rfl (pkF rfl rfl) ?_
          refine q rfl rfl (mv (v := .bool _) rfl) ?_
          refine TL.known 254 rfl (c := false) (by simp) ?_
          first | refine qg rfl rfl rfl (ldN (vs := ints [_, _, _]) 3 rfl rfl rfl rfl) ?_ | refine qg rfl rfl rfl (ldSN (vs := ints [_, _, _]) 3 rfl rfl rfl rfl (by decide)) ?_
          first | refine qg rfl rfl rfl (ldN (vs := ints [_, _, _]) 3 rfl rfl rfl rfl) ?_ | refine qg rfl rfl rfl (ldSN (vs := ints [_, _, _]) 3 rfl rfl rfl rfl (by decide)) ?_
          refine qg rfl rfl rfl (neS 3 (by kernel_rfl) rfl rfl rfl rfl) ?_
          first | refine q rfl rfl (pkT rfl rfl) ?_ | refine q rfl rfl (pkF rfl rfl) ?_
          refine q rfl rfl (mv (v := .bool _) rfl) ?_
          refine TL.known 259 rfl (c := false) (by simp) ?_
          refine qg rfl rfl rfl (mv (v := .int _ _) rfl) ?_
          refine qg rfl rfl rfl (mv (v := .int _ _) rfl) ?_
          refine qg rfl rfl rfl (neI rfl rfl) ?_
          first | refine q rfl rfl (pkT rfl rfl) ?_ | refine q rfl rfl (pkF rfl rfl) ?_
          refine q rfl rfl (mv (v := .bool _) rfl) ?_
          refine TL.known 264 rfl (c := false) (by simp) ?_
          refine qg rfl rfl rfl (mv (v := .pointer _) rfl) ?_
          refine eg rfl rfl ?_
          refine cl (room_ok tb l2 hinv2.okl) rfl (picked_nil _) ⟨_, RdSI.rd⟩ ?_
          intro _ _
          change TL _ _ _ _ _ _ _ _ (sepL [_, _, _, _, _, _, _, _])
          refine qg rfl rfl rfl (mv (v := .pointer _) rfl) ?_
          refine eg rfl rfl ?_
          refine cl (rroom_ok b4 m2 hinv2.okm) rfl (picked_nil _) ⟨_, RdSI.rd⟩ ?_
          intro _ _
          change TL _ _ _ _ _ _ _ _ (sepL [_, _, _, _, _, _, _, _])
          rw [hae]
          refine qg rfl rfl rfl (neI rfl rfl) ?_
          first | refine q rfl rfl (pkT rfl rfl) ?_ | refine q rfl rfl (pkF rfl rfl) ?_
          refine TL.nil (nt ?_)
          refine TC.condD rfl (fun hc1 => absurd hc1 (by simp)) (fun hc1 => ?_)
          refine TC.skip (nb (nt ?_))
          refine TC.region ?_
          refine q rfl rfl (mv (v := .int _ _) rfl) ?_
          first | refine q rfl rfl (addI rfl rfl (by omega) (by omega)) ?_ | refine q rfl rfl (add rfl rfl rfl) ?_
          refine q rfl rfl (asg (v := .int _ _) rfl) ?_
          refine TL.nil (nt ?_)
          exact ⟨rfl, ⟨i + 1, l2, m2⟩, ⟨hinv2, by dsimp only; omega⟩, (by dsimp only; omega), ⟨rfl, rfl, rfl, rfl, trivial⟩, (ent_take 4 rfl (ent_take 4 rfl (ent_take 5 rfl (ent_nil _))))⟩
    · have h1 := hinv.all 1
      have h2 := hinv.all 2
      have hb1 := allL_le l 1
      have hb2 := allL_le l 2
      have hln := hinv.okl.n
      refine TC.exit (et (et (eb (nt ?_))))
      refine TC.seq ?_
      refine TC.region ?_
      refine q rfl rfl (mv (v := .pointer _) rfl) ?_
      refine e rfl ?_
      refine cl (live_ok tb l hinv.okl) rfl (picked_nil _) ⟨_, RdSI.rd⟩ ?_
      intro y1 _
      change TL _ _ _ _ _ _ _ _ (sepL [_, _, _, _])
      refine q rfl rfl (mv (v := .pointer _) rfl) ?_
      refine e rfl ?_
      refine cl (rall_ok b4 m 1 hinv.okm) rfl (picked_nil _) ⟨_, RdSI.rd⟩ ?_
      intro y2 _
      change TL _ _ _ _ _ _ _ _ (sepL [_, _, _, _, _])
      rw [h1]
      refine e rfl ?_
      refine cl (hsame_ok y1.1 _ (allL l 1) y2.1 _ (allL l 1) (by omega)) rfl (picked_nil _) ⟨⟨_, RdSI.rd (ad := y1.1)⟩, ⟨_, RdSI.rd (ad := y2.1)⟩⟩ ?_
      intro _ _
      change TL _ _ _ _ _ _ _ _ (sepL [_, _, _, _, _])
      rw [decide_eq_true (show allL l 1 = allL l 1 from rfl)]
      refine q rfl rfl (mv (v := .bool _) rfl) ?_
      refine TL.known 276 rfl (c := true) rfl ?_
      refine qg rfl rfl rfl (mv (v := .pointer _) rfl) ?_
      refine eg rfl rfl ?_
      refine cl (zombies_ok tb l hinv.okl) rfl (picked_nil _) ⟨_, RdSI.rd⟩ ?_
      intro y3 _
      change TL _ _ _ _ _ _ _ _ (sepL [_, _, _, _, _, _])
      refine qg rfl rfl rfl (mv (v := .pointer _) rfl) ?_
      refine eg rfl rfl ?_
      refine cl (rall_ok b4 m 2 hinv.okm) rfl (picked_nil _) ⟨_, RdSI.rd⟩ ?_
      intro y4 _
      change TL _ _ _ _ _ _ _ _ (sepL [_, _, _, _, _, _, _])
      rw [h2]
      refine eg rfl rfl ?_
      refine cl (hsame_ok y3.1 _ (allL l 2) y4.1 _ (allL l 2) (by omega)) rfl (picked_nil _) ⟨⟨_, RdSI.rd (ad := y3.1)⟩, ⟨_, RdSI.rd (ad := y4.1)⟩⟩ ?_
      intro _ _
      change TL _ _ _ _ _ _ _ _ (sepL [_, _, _, _, _, _, _])
      rw [decide_eq_true (show allL l 2 = allL l 2 from rfl)]
      first | refine q rfl rfl (pkT rfl rfl) ?_ | refine q rfl rfl (pkF rfl rfl) ?_
      refine q rfl rfl (asg (v := .bool _) rfl) ?_
      refine TL.nil (nt ?_)
      refine TC.ret ?_
      exact Ret.i () [_] ⟨rfl, trivial⟩ rfl trivial (ent_take 6 rfl (ent_nil _))

end Go.Proofs.Ytjnjijgplmmaiaa
