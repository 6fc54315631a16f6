/-
  Proved here: what functions of this program compute, each as a contract over symbolic states, under the premises that each theorem names (most lines printed by a program of the prover).
-/
import Derived.Test.YtjnjijgplmmaiaaHandE
namespace Go.Proofs.Ytjnjijgplmmaiaa
open Go Go.QM
def hs (n : Nat) : List Int := (List.range n).map fun j : Nat => (j : Int)
theorem hs_get {n j : Nat} (h : j < n) : (hs n)[j]? = some (j : Int) := by rw [hs, List.getElem?_map, List.getElem?_range h]; rfl
theorem hs_length (n : Nat) : (hs n).length = n := by simp [hs]
theorem hs_snoc (n : Nat) : hs (n + 1) = hs n ++ [(n : Int)] := by simp [hs, List.range_succ]
theorem lookL_at {l : List Pl} {m : Nat} {p : Pl} {h : Int} (hi : l[m]? = some p) (hm : m < 256) (hh : h = p.age * 256 + m) : lookL l h p.st = some (m, p) := by
  have e : (h % 256).toNat = m := by omega
  rw [lookL, e, hi]
  simp only
  rw [if_pos ⟨by omega, trivial⟩]
theorem lookL_no {l : List Pl} {m : Nat} {p : Pl} {st : Int} (hi : l[m]? = some p) (hm : m < 256) (ha : 1 ≤ p.age) : lookL l (m : Int) st = none := by
  have e : ((m : Int) % 256).toNat = m := by omega
  rw [lookL, e, hi]
  simp only
  rw [if_neg (by omega)]
structure P1 (l : List Pl) (i : Nat) : Prop where
  ok : OkT l
  a : ∀ j, j < i → ∃ p, l[j]? = some p ∧ p.st = 1 ∧ p.age = 0
  b : ∀ j, i ≤ j → j < 256 → ∃ p, l[j]? = some p ∧ p.st = 0 ∧ p.age = 0
theorem P1.start : P1 (List.replicate 256 zeroPl) 0 := ⟨ok_new, by intro j h; omega, fun j _ h => ⟨zeroPl, by rw [List.getElem?_replicate, if_pos h], rfl, rfl⟩⟩
theorem set_ne {l : List Pl} {i j : Nat} {p : Pl} (h : i ≠ j) : (l.set i p)[j]? = l[j]? := List.getElem?_set_ne h
theorem P1.put {l : List Pl} {i : Nat} (h : P1 l i) (hi : i < 256) (o : Ob) : putR l o = (l.set i ⟨o, 1, 0⟩, (i : Int), 0) ∧ P1 (l.set i ⟨o, 1, 0⟩) (i + 1) := by
  obtain ⟨p, h1, h2, h3⟩ := h.b i (Nat.le_refl _) hi
  constructor
  · have hf : l.findIdx? isEmpty = some i := findIdx_at h1 (by simp [isEmpty, h2]) (fun j t hj ht => by
      obtain ⟨q, k1, k2, _⟩ := h.a j hj
      rw [ht] at k1; cases k1
      simp [isEmpty, k2])
    rw [putR, hf]
    simp only
    rw [h1]
    simp only [h3]
    congr 2
    omega
  · refine ⟨h.ok.set i ⟨Int.le_refl 0, (by decide : (0 : Int) ≤ 1048575)⟩, fun j hj => ?_, fun j hj hj2 => ?_⟩
    · by_cases e : i = j
      · subst e; exact ⟨_, set_at h1, rfl, rfl⟩
      · rw [set_ne e]; exact h.a j (by omega)
    · rw [set_ne (by omega)]; exact h.b j (by omega) hj2
structure P2 (l : List Pl) (k f i : Nat) : Prop where
  ok : OkT l
  a : ∀ j, i ≤ j → j < k → ∃ p, l[(j + f) % k]? = some p ∧ p.st = 1 ∧ p.age = 0
  b : ∀ j, j < i → j < k → ∃ p, l[(j + f) % k]? = some p ∧ 1 ≤ p.age
theorem P2.start {l : List Pl} {k : Nat} (h : P1 l k) (hk : 1 ≤ k) (f : Nat) : P2 l k f 0 := ⟨h.ok, fun j _ _ => h.a _ (Nat.mod_lt _ hk), by intro j h; omega⟩
theorem add_mod_inj {a b f k : Nat} (hab : a < b) (hb : b < k) (e : (a + f) % k = (b + f) % k) : False := by
  have h := Nat.sub_mod_eq_zero_of_mod_eq e.symm
  rw [show b + f - (a + f) = b - a by omega, Nat.mod_eq_of_lt (by omega)] at h
  omega
theorem P2.step {l : List Pl} {k f i : Nat} (h : P2 l k f i) (hi : i < k) (hk : k ≤ 256) : ∃ o : Ob,
    getR l (((i + f) % k : Nat) : Int) = (o, 0) ∧ killR l (((i + f) % k : Nat) : Int) = (l.set ((i + f) % k) ⟨o, 2, 0⟩, 0) ∧
    freeR (l.set ((i + f) % k) ⟨o, 2, 0⟩) (((i + f) % k : Nat) : Int) = (l.set ((i + f) % k) ⟨zeroOb, 0, 1⟩, o, 0) ∧ OkT (l.set ((i + f) % k) ⟨o, 2, 0⟩) ∧ P2 (l.set ((i + f) % k) ⟨zeroOb, 0, 1⟩) k f (i + 1) := by
  obtain ⟨p, h1, h2, h3⟩ := h.a i (Nat.le_refl _) hi
  have hm : (i + f) % k < k := Nat.mod_lt _ (by omega)
  have hl1 : lookL l (((i + f) % k : Nat) : Int) 1 = some ((i + f) % k, p) := by
    have := lookL_at (h := (((i + f) % k : Nat) : Int)) h1 (by omega) (by rw [h3]; omega)
    rw [h2] at this; exact this
  have hs2 := set_at (q := ⟨p.o, 2, 0⟩) h1
  have hl2 : lookL (l.set ((i + f) % k) ⟨p.o, 2, 0⟩) (((i + f) % k : Nat) : Int) 2 = some ((i + f) % k, ⟨p.o, 2, 0⟩) :=
    lookL_at (h := (((i + f) % k : Nat) : Int)) hs2 (by omega) (by dsimp only; omega)
  refine ⟨p.o, by rw [getR, hl1], by rw [killR, hl1]; simp only [h3], ?_, h.ok.set _ ⟨Int.le_refl 0, (by decide : (0 : Int) ≤ 1048575)⟩, h.ok.set _ (by decide), fun j hj hj2 => ?_, fun j hj hj2 => ?_⟩
  · rw [freeR, hl2]
    simp only [List.set_set]
    rfl
  · rw [set_ne (fun e => add_mod_inj (by omega) hj2 e)]; exact h.a j (by omega) hj2
  · by_cases e : j = i
    · subst e; exact ⟨_, set_at h1, by decide⟩
    · rw [set_ne (fun e => add_mod_inj (show j < i by omega) hi e.symm)]; exact h.b j (by omega) hj2
structure P3 (l : List Pl) (k : Nat) : Prop where
  ok : OkT l
  a : ∀ j, j < k → ∃ p, l[j]? = some p ∧ 1 ≤ p.age
theorem P2.done {l : List Pl} {k f : Nat} (h : P2 l k f k) : P3 l k := ⟨h.ok, fun j hj => by
  have hr : (j + k - f % k) % k < k := Nat.mod_lt _ (by omega)
  have hfk : f % k < k := Nat.mod_lt _ (by omega)
  obtain ⟨p, h1, h2⟩ := h.b _ hr hr
  have e : ((j + k - f % k) % k + f) % k = j := by
    rw [Nat.mod_add_mod]
    have hd := Nat.div_add_mod f k
    have : j + k - f % k + f = j + k * (f / k + 1) := by rw [Nat.mul_add, Nat.mul_one]; omega
    rw [this, Nat.add_mul_mod_self_left, Nat.mod_eq_of_lt hj]
  rw [e] at h1
  exact ⟨p, h1, h2⟩⟩
theorem putR_cases {l : List Pl} (o : Ob) : (putR l o).1 = l ∨ ∃ i p, l[i]? = some p ∧ (putR l o).1 = l.set i ⟨o, 1, p.age⟩ := by
  unfold putR
  split
  · split
    · rename_i i _ _ p hp; exact .inr ⟨i, p, hp, rfl⟩
    · exact .inl rfl
  · exact .inl rfl
theorem OkT.put {l : List Pl} (h : OkT l) (o : Ob) : OkT (putR l o).1 := by
  rcases putR_cases (l := l) o with e | ⟨i, p, hp, e⟩ <;> rw [e]
  · exact h
  · exact h.set i (h.age p (List.mem_of_getElem? hp))
theorem P3.put {l : List Pl} {k : Nat} (h : P3 l k) (o : Ob) : P3 (putR l o).1 k := ⟨h.ok.put o, fun j hj => by
  obtain ⟨q, h1, h2⟩ := h.a j hj
  rcases putR_cases (l := l) o with e | ⟨i, p, hp, e⟩ <;> rw [e]
  · exact ⟨q, h1, h2⟩
  · by_cases e : i = j
    · subst e; rw [h1] at hp; cases hp; exact ⟨_, set_at h1, h2⟩
    · rw [set_ne e]; exact ⟨q, h1, h2⟩⟩
theorem P3.stale {l : List Pl} {k j : Nat} (h : P3 l k) (hj : j < k) (hk : k ≤ 256) : getR l (j : Int) = (zeroOb, 8) ∧ killR l (j : Int) = (l, 8) ∧ freeR l (j : Int) = (l, zeroOb, 8) := by
  obtain ⟨p, h1, h2⟩ := h.a j hj
  have hn := fun st => lookL_no (st := st) h1 (by omega) h2
  exact ⟨by rw [getR, hn], by rw [killR, hn], by rw [freeR, hn]⟩

theorem stale_ok (n more fr : Int) (hn : 0 ≤ n ∧ n ≤ 255) (hm : 0 ≤ more ∧ more ≤ 255) (hfr : 0 ≤ fr ∧ fr ≤ 255) : FSpec Try.prog 3 [.int .u8 n, .int .u8 more, .int .u8 fr] noRd [] (fun _ : Unit => .bool true) (fun _ => True) (fun _ => []) := by
  refine FSpec.intro (rs := [.tmp 6]) (by kernel_rfl) Try.func3 rfl Try.ntmps3 (by rfl) rfl ?_
  intro F _
  change TC _ _ _ _ _ _ _ (sepL [_])
  refine TC.seq ?_
  refine TC.region ?_
  refine q rfl rfl (asg (v := .bool _) rfl) ?_
  refine TL.nil (nt ?_)
  refine TC.seq ?_
  refine TC.seq ?_
  refine TC.region ?_
  refine e rfl ?_
  refine cl alive_ok rfl (picked_nil _) trivial ?_
  intro _ _
  change TL _ _ _ _ _ _ _ _ (sepL [_])
  first | refine q rfl rfl (notD rfl) ?_ | refine q rfl rfl (notB rfl) ?_
  refine TL.nil (nt ?_)
  refine TC.condF rfl ?_
  refine TC.skip (nt ?_)
  refine TC.seq ?_
  refine TC.region ?_
  refine e rfl ?_
  refine cl new_ok rfl (picked_nil _) trivial ?_
  intro tb _
  change TL _ _ _ _ _ _ _ _ (sepL [_, _])
  refine q rfl rfl (asg (v := .pointer _) rfl) ?_
  refine TL.nil (nt ?_)
  refine TC.seq ?_
  refine TC.region ?_
  refine q rfl rfl (mv (v := .int _ _) rfl) ?_
  first | refine q rfl rfl (conv .u8 .i64 rfl rfl rfl (wi64 (by omega) (by omega))) ?_ | refine q rfl rfl (conv .u8 .i64 rfl rfl rfl rfl) ?_
  first | refine q rfl rfl (remI rfl rfl (by omega) (by omega)) ?_ | refine q rfl rfl (rem rfl rfl (by omega) rfl) ?_
  first | refine q rfl rfl (addI rfl rfl (by omega) (by omega)) ?_ | refine q rfl rfl (add rfl rfl rfl) ?_
  refine q rfl rfl (asg (v := .int _ _) rfl) ?_
  refine TL.nil (nt ?_)
  refine TC.seq ?_
  obtain ⟨k, hk⟩ : ∃ k : Nat, 1 + n % 200 = k := ⟨(1 + n % 200).toNat, by omega⟩
  rw [hk]
  have hk2 : 1 ≤ k ∧ k ≤ 200 := by omega
  obtain ⟨f, rfl⟩ := Int.eq_ofNat_of_zero_le hfr.1
  refine TC.region ?_
  refine q rfl rfl (asg (v := .slice _ _ _) rfl) ?_
  refine TL.nil (nt ?_)
  refine TC.seq ?_
  refine TC.seq ?_
  refine TC.region ?_
  refine q rfl rfl (asg (v := .int _ _) rfl) ?_
  refine TL.nil (nt ?_)
  refine TC.block ?_
  refine TC.loop (ι := Nat × List Pl × Option Addr × Nat) (fun s => P1 s.2.1 s.1 ∧ s.1 ≤ k) (fun s => [(1, .int .u8 more), (2, .int .u8 (f : Int)), (7, .pointer (some ⟨tb, 0, none⟩)), (8, .int .i64 (k : Int)), (9, .slice s.2.2.1 s.1 s.2.2.2), (10, .int .i64 ((s.1 : Nat) : Int))]) (fun s => sepL [slc 63 5 (some ⟨tb, 0, none⟩) 256 256 (tabC s.2.1), slc 27 1 s.2.2.1 s.1 s.2.2.2 (nums .u32 (hs s.1)), F]) (fun s => k - s.1) ⟨0, List.replicate 256 zeroPl, none, 0⟩ ⟨P1.start, Nat.zero_le _⟩ ⟨rfl, rfl, rfl, rfl, rfl, rfl, trivial⟩ ((slc_nil 27 1 _).trans (ent_take 1 rfl (ent_takeE 0 rfl (by rfl) (ent_take 0 rfl (ent_nil _))))) ?_
  rintro ⟨i, l, ad, cap⟩ ⟨hinv, hik⟩ ρ0
  dsimp only [updL] at hinv hik ⊢
  refine TC.seq ?_
  refine TC.seq ?_
  refine TC.region ?_
  refine q rfl rfl (mv (v := .int _ _) rfl) ?_
  refine q rfl rfl (mv (v := .int _ _) rfl) ?_
  refine q rfl rfl (lss rfl rfl) ?_
  refine TL.nil (nt ?_)
  first | refine TC.condD rfl (fun hlt => ?_) (fun hlt => ?_) | refine TC.cond rfl (fun hlt => ?_) (fun hlt => ?_)
  · have hlt : i < k := by omega
    obtain ⟨hput, hinv1⟩ := hinv.put (by omega) ⟨1 + (i : Int) % 5, 16 * i, 0⟩
    refine TC.skip (nt ?_)
    refine TC.seq ?_
    refine TC.block ?_
    refine TC.seq ?_
    refine TC.region ?_
    refine q rfl rfl (mv (v := .pointer _) rfl) ?_
    refine q rfl rfl (mv (v := .int _ _) rfl) ?_
    first | refine q rfl rfl (remI rfl rfl (by omega) (by omega)) ?_ | refine q rfl rfl (rem rfl rfl (by omega) rfl) ?_
    first | refine q rfl rfl (addI rfl rfl (by omega) (by omega)) ?_ | refine q rfl rfl (add rfl rfl rfl) ?_
    refine q rfl rfl (mv (v := .int _ _) rfl) ?_
    first | refine q rfl rfl (mulI rfl rfl (by omega) (by omega)) ?_ | refine q rfl rfl (mul rfl rfl rfl) ?_
    first | refine q rfl rfl (bld (cs := ints [_, _, _]) rfl) ?_ | refine q rfl rfl (bld (cs := [_, _, _]) rfl) ?_
    refine e rfl ?_
    refine cl (put_ok tb l ⟨1 + (i : Int) % 5, 16 * i, 0⟩ hinv.ok) rfl (picked_cons 0 rfl (picked_nil _)) trivial ?_
    intro _ _
    change TL _ _ _ _ _ _ _ _ (sepL [_, _, _])
    rw [hput]
    dsimp only
    refine q rfl rfl (mv (v := .tuple _) rfl) ?_
    refine q rfl rfl (pu (v := .int _ _) (fun _ => rfl)) ?_
    refine q rfl rfl (pu (v := .int _ _) (fun _ => rfl)) ?_
    refine q rfl rfl (asg (v := .int _ _) rfl) ?_
    refine q rfl rfl (asg (v := .int _ _) rfl) ?_
    refine TL.nil (nt ?_)
    refine TC.seq ?_
    refine TC.seq ?_
    refine TC.region ?_
    refine q rfl rfl (mv (v := .int _ _) rfl) ?_
    refine q rfl rfl (neI rfl rfl) ?_
    refine TL.nil (nt ?_)
    refine TC.condD rfl (fun hc1 => absurd hc1 (by decide)) (fun hc1 => ?_)
    refine TC.skip (nt ?_)
    refine TC.region ?_
    refine q rfl rfl (mv (v := .slice _ _ _) rfl) ?_
    refine q rfl rfl (mv (v := .int _ _) rfl) ?_
    refine e rfl ?_
    refine bs (cs := [.int _ _]) rfl ?_
    intro b1
    refine e rfl ?_
    refine ap 4 rfl rfl rfl rfl rfl (Nat.le_of_ble_eq_true rfl) rfl rfl (by omega) (by simp only [maxLen]; omega) ?_
    intro ad1 cap1
    refine q rfl rfl (asg (v := .slice _ _ _) rfl) ?_
    refine TL.nil (nb (nt ?_))
    refine TC.region ?_
    refine q rfl rfl (mv (v := .int _ _) rfl) ?_
    first | refine q rfl rfl (addI rfl rfl (by omega) (by omega)) ?_ | refine q rfl rfl (add rfl rfl rfl) ?_
    refine q rfl rfl (asg (v := .int _ _) rfl) ?_
    refine TL.nil (nt ?_)
    exact ⟨rfl, ⟨i + 1, l.set i ⟨⟨1 + (i : Int) % 5, 16 * i, 0⟩, 1, 0⟩, ad1, cap1⟩, ⟨hinv1, by dsimp only; omega⟩, (by dsimp only; omega), ⟨rfl, rfl, rfl, rfl, rfl, rfl, trivial⟩, (ent_take 2 rfl (ent_takeE 0 rfl (by simp [nums, hs_snoc]) (ent_take 1 rfl (ent_nil _))))⟩
  · obtain rfl : i = k := by omega
    have hinv2 := P2.start hinv hk2.1 f
    have hhl : (nums .u32 (hs i)).length = i := by rw [nums_length, hs_length]
    clear hinv
    refine TC.exit (et (et (eb (nt ?_))))
    refine TC.seq ?_
    refine TC.seq ?_
    refine TC.region ?_
    refine q rfl rfl (asg (v := .int _ _) rfl) ?_
    refine TL.nil (nt ?_)
    refine TC.block ?_
    refine TC.loop (ι := Nat × List Pl) (fun s => P2 s.2 i f s.1 ∧ s.1 ≤ i) (fun s => [(1, .int .u8 more), (2, .int .u8 (f : Int)), (7, .pointer (some ⟨tb, 0, none⟩)), (8, .int .i64 (i : Int)), (9, .slice ad i cap), (13, .int .i64 ((s.1 : Nat) : Int))]) (fun s => sepL [slc 63 5 (some ⟨tb, 0, none⟩) 256 256 (tabC s.2), slc 27 1 ad i cap (nums .u32 (hs i)), F]) (fun s => i - s.1) ⟨0, l⟩ ⟨hinv2, Nat.zero_le _⟩ ⟨rfl, rfl, rfl, rfl, rfl, rfl, trivial⟩ (ent_take 0 rfl (ent_take 0 rfl (ent_take 0 rfl (ent_nil _)))) ?_
    rintro ⟨k, l⟩ ⟨hinv, hik⟩ ρ1
    dsimp only [updL] at hinv hik ⊢
    refine TC.seq ?_
    refine TC.seq ?_
    refine TC.region ?_
    refine q rfl rfl (mv (v := .int _ _) rfl) ?_
    refine q rfl rfl (mv (v := .int _ _) rfl) ?_
    refine q rfl rfl (lss rfl rfl) ?_
    refine TL.nil (nt ?_)
    first | refine TC.condD rfl (fun hlt => ?_) (fun hlt => ?_) | refine TC.cond rfl (fun hlt => ?_) (fun hlt => ?_)
    · have hlt : k < i := by omega
      obtain ⟨o, hg, hki, hfr2, hok, hinv3⟩ := hinv.step hlt (by omega)
      obtain ⟨m, hm0⟩ : ∃ m, (k + f) % i = m := ⟨_, rfl⟩
      have hmi : m < i := by rw [← hm0]; exact Nat.mod_lt _ (by omega)
      rw [hm0] at hg hki hfr2 hok hinv3
      have hpos : 0 < (nums .u32 (hs i)).length := by omega
      refine TC.skip (nt ?_)
      refine TC.seq ?_
      refine TC.block ?_
      refine TC.seq ?_
      refine TC.region ?_
      refine q rfl rfl (mv (v := .slice _ _ _) rfl) ?_
      refine q rfl rfl (mv (v := .int _ _) rfl) ?_
      refine q rfl rfl (mv (v := .int _ _) rfl) ?_
      first | refine q rfl rfl (conv .u8 .i64 rfl rfl rfl (wi64 (by omega) (by omega))) ?_ | refine q rfl rfl (conv .u8 .i64 rfl rfl rfl rfl) ?_
      first | refine q rfl rfl (addI rfl rfl (by omega) (by omega)) ?_ | refine q rfl rfl (add rfl rfl rfl) ?_
      refine q rfl rfl (mv (v := .int _ _) rfl) ?_
      first | refine q rfl rfl (remI rfl rfl (by omega) (by omega)) ?_ | refine q rfl rfl (rem rfl rfl (by omega) rfl) ?_
      rw [show ((k : Int) + (f : Int)) % (i : Int) = (m : Int) from by rw [← hm0]; simp]
      first | refine q rfl rfl (ixS 27 1 rfl rfl rfl (by omega) (by first | assumption | (simp [ints_length] <;> omega))) ?_ | refine q rfl rfl (ixJ 27 1 rfl rfl rfl (by omega) (by omega) (by first | assumption | (simp [ints_length] <;> omega))) ?_ | refine q rfl rfl (ix 27 1 rfl rfl rfl (by omega) (by omega) rfl) ?_
      first | refine q rfl rfl (ld rfl rfl rfl) ?_ | refine q rfl rfl (ldS rfl rfl (nums_get (hs_get hmi))) ?_ | refine q rfl rfl (ldS rfl rfl rfl) ?_
      refine q rfl rfl (asg (v := .int _ _) rfl) ?_
      refine TL.nil (nt ?_)
      refine TC.seq ?_
      refine TC.region ?_
      refine q rfl rfl (mv (v := .pointer _) rfl) ?_
      refine q rfl rfl (mv (v := .int _ _) rfl) ?_
      refine e rfl ?_
      refine cl (get_ok tb l m hinv.ok (by omega)) rfl (picked_nil _) ⟨_, RdSI.rd⟩ ?_
      intro _ _
      change TL _ _ _ _ _ _ _ _ (sepL [_, _, _])
      rw [hg]
      dsimp only
      refine q rfl rfl (mv (v := .tuple _) rfl) ?_
      refine q rfl rfl (pu (v := .agg (List.toArray (ints [_, _, _]))) (fun _ => rfl)) ?_
      refine q rfl rfl (pu (v := .int _ _) (fun _ => rfl)) ?_
      refine e rfl ?_
      refine al (l := ints [_, _, _]) rfl rfl ?_
      intro b2
      refine e0 ?_
      refine st (v := .agg (List.toArray (ints [_, _, _]))) (vs := ints [_, _, _]) 3 rfl rfl rfl rfl rfl rfl (Nat.le_of_ble_eq_true rfl) rfl ?_
      refine q rfl rfl (asg (v := .int _ _) rfl) ?_
      refine TL.nil (nt ?_)
      refine TC.seq ?_
      refine TC.region ?_
      refine q rfl rfl (mv (v := .pointer _) rfl) ?_
      refine q rfl rfl (mv (v := .int _ _) rfl) ?_
      refine e rfl ?_
      refine cl (kill_ok tb l m hinv.ok (by omega)) rfl (picked_cons 1 rfl (picked_nil _)) trivial ?_
      intro _ _
      change TL _ _ _ _ _ _ _ _ (sepL [_, _, _, _])
      rw [hki]
      dsimp only
      refine q rfl rfl (asg (v := .int _ _) rfl) ?_
      refine TL.nil (nt ?_)
      refine TC.seq ?_
      refine TC.region ?_
      refine q rfl rfl (mv (v := .pointer _) rfl) ?_
      refine q rfl rfl (mv (v := .int _ _) rfl) ?_
      refine e rfl ?_
      refine cl (free_ok tb (l.set m ⟨o, 2, 0⟩) m hok (by omega)) rfl (picked_cons 0 rfl (picked_nil _)) trivial ?_
      intro _ _
      change TL _ _ _ _ _ _ _ _ (sepL [_, _, _, _])
      rw [hfr2]
      dsimp only
      refine q rfl rfl (mv (v := .tuple _) rfl) ?_
      refine q rfl rfl (pu (v := .agg (List.toArray (ints [_, _, _]))) (fun _ => rfl)) ?_
      refine q rfl rfl (pu (v := .int _ _) (fun _ => rfl)) ?_
      refine e rfl ?_
      refine al (l := ints [_, _, _]) rfl rfl ?_
      intro b3
      refine e0 ?_
      refine st (v := .agg (List.toArray (ints [_, _, _]))) (vs := ints [_, _, _]) 3 rfl rfl rfl rfl rfl rfl (Nat.le_of_ble_eq_true rfl) rfl ?_
      refine q rfl rfl (asg (v := .int _ _) rfl) ?_
      refine TL.nil (nt ?_)
      refine TC.seq ?_
      refine TC.region ?_
      refine q rfl rfl (mv (v := .int _ _) rfl) ?_
      refine q rfl rfl (neI rfl rfl) ?_
      refine q rfl rfl (mv (v := .bool _) rfl) ?_
      refine TL.known 86 rfl (c := false) (by decide) ?_
      refine qg rfl rfl rfl (mv (v := .int _ _) rfl) ?_
      refine qg rfl rfl rfl (neI rfl rfl) ?_
      first | refine q rfl rfl (pkT rfl rfl) ?_ | refine q rfl rfl (pkF rfl rfl) ?_
      refine q rfl rfl (mv (v := .bool _) rfl) ?_
      refine TL.known 90 rfl (c := false) (by decide) ?_
      refine qg rfl rfl rfl (mv (v := .int _ _) rfl) ?_
      refine qg rfl rfl rfl (neI rfl rfl) ?_
      first | refine q rfl rfl (pkT rfl rfl) ?_ | refine q rfl rfl (pkF rfl rfl) ?_
      refine q rfl rfl (mv (v := .bool _) rfl) ?_
      refine TL.known 94 rfl (c := false) (by decide) ?_
      first | refine qg rfl rfl rfl (ldN (vs := ints [_, _, _]) 3 rfl rfl rfl rfl) ?_ | refine qg rfl rfl rfl (ldSN (vs := ints [_, _, _]) 3 rfl rfl (nums_get (hs_get hmi)) rfl (by decide)) ?_ | refine qg rfl rfl rfl (ldSN (vs := ints [_, _, _]) 3 rfl rfl rfl rfl (by decide)) ?_
      first | refine qg rfl rfl rfl (ldN (vs := ints [_, _, _]) 3 rfl rfl rfl rfl) ?_ | refine qg rfl rfl rfl (ldSN (vs := ints [_, _, _]) 3 rfl rfl (nums_get (hs_get hmi)) rfl (by decide)) ?_ | refine qg rfl rfl rfl (ldSN (vs := ints [_, _, _]) 3 rfl rfl rfl rfl (by decide)) ?_
      refine qg rfl rfl rfl (neS 3 (by kernel_rfl) rfl rfl rfl rfl) ?_
      first | refine q rfl rfl (pkT rfl rfl) ?_ | refine q rfl rfl (pkF rfl rfl) ?_
      refine TL.nil (nt ?_)
      refine TC.condD rfl (fun hc2 => absurd hc2 (by simp)) (fun hc2 => ?_)
      refine TC.skip (nb (nt ?_))
      refine TC.region ?_
      refine q rfl rfl (mv (v := .int _ _) rfl) ?_
      first | refine q rfl rfl (addI rfl rfl (by omega) (by omega)) ?_ | refine q rfl rfl (add rfl rfl rfl) ?_
      refine q rfl rfl (asg (v := .int _ _) rfl) ?_
      refine TL.nil (nt ?_)
      exact ⟨rfl, ⟨k + 1, l.set m ⟨zeroOb, 0, 1⟩⟩, ⟨hinv3, by dsimp only; omega⟩, (by dsimp only; omega), ⟨rfl, rfl, rfl, rfl, rfl, rfl, trivial⟩, (ent_take 1 rfl (ent_take 2 rfl (ent_take 2 rfl (ent_nil _))))⟩
    · obtain rfl : k = i := by omega
      have hinv4 := hinv.done
      clear hinv
      refine TC.exit (et (et (eb (nt ?_))))
      refine TC.seq ?_
      refine TC.seq ?_
      refine TC.region ?_
      refine q rfl rfl (asg (v := .int _ _) rfl) ?_
      refine TL.nil (nt ?_)
      refine TC.block ?_
      refine TC.loop (ι := Nat × List Pl) (fun s => P3 s.2 k ∧ (s.1 : Int) ≤ more) (fun s => [(1, .int .u8 more), (7, .pointer (some ⟨tb, 0, none⟩)), (8, .int .i64 (k : Int)), (9, .slice ad k cap), (20, .int .i64 ((s.1 : Nat) : Int))]) (fun s => sepL [slc 63 5 (some ⟨tb, 0, none⟩) 256 256 (tabC s.2), slc 27 1 ad k cap (nums .u32 (hs k)), F]) (fun s => (more - s.1).toNat) ⟨0, l⟩ ⟨hinv4, by dsimp only; omega⟩ ⟨rfl, rfl, rfl, rfl, rfl, trivial⟩ (ent_take 0 rfl (ent_take 0 rfl (ent_take 0 rfl (ent_nil _)))) ?_
      rintro ⟨j, l⟩ ⟨hinv, hjm⟩ ρ2
      dsimp only [updL] at hinv hjm ⊢
      refine TC.seq ?_
      refine TC.seq ?_
      refine TC.region ?_
      refine q rfl rfl (mv (v := .int _ _) rfl) ?_
      refine q rfl rfl (mv (v := .int _ _) rfl) ?_
      first | refine q rfl rfl (conv .u8 .i64 rfl rfl rfl (wi64 (by omega) (by omega))) ?_ | refine q rfl rfl (conv .u8 .i64 rfl rfl rfl rfl) ?_
      refine q rfl rfl (lss rfl rfl) ?_
      refine TL.nil (nt ?_)
      first | refine TC.condD rfl (fun hlt => ?_) (fun hlt => ?_) | refine TC.cond rfl (fun hlt => ?_) (fun hlt => ?_)
      · refine TC.skip (nt ?_)
        refine TC.seq ?_
        refine TC.block ?_
        refine TC.region ?_
        refine q rfl rfl (mv (v := .pointer _) rfl) ?_
        first | refine q rfl rfl (bld (cs := ints [_, _, _]) rfl) ?_ | refine q rfl rfl (bld (cs := [_, _, _]) rfl) ?_
        refine e rfl ?_
        refine cl (put_ok tb l ⟨1, 5, 0⟩ hinv.ok) rfl (picked_cons 0 rfl (picked_nil _)) trivial ?_
        intro _ _
        change TL _ _ _ _ _ _ _ _ (sepL [_, _, _])
        refine TL.nil (nb (nt ?_))
        refine TC.region ?_
        refine q rfl rfl (mv (v := .int _ _) rfl) ?_
        first | refine q rfl rfl (addI rfl rfl (by omega) (by omega)) ?_ | refine q rfl rfl (add rfl rfl rfl) ?_
        refine q rfl rfl (asg (v := .int _ _) rfl) ?_
        refine TL.nil (nt ?_)
        exact ⟨rfl, ⟨j + 1, (putR l ⟨1, 5, 0⟩).1⟩, ⟨hinv.put _, by dsimp only; omega⟩, (by dsimp only; omega), ⟨rfl, rfl, rfl, rfl, rfl, trivial⟩, (ent_take 0 rfl (ent_take 0 rfl (ent_take 0 rfl (ent_nil _))))⟩
      · refine TC.exit (et (et (eb (nt ?_))))
        refine TC.seq ?_
        refine TC.seq ?_
        refine TC.region ?_
        refine q rfl rfl (asg (v := .int _ _) rfl) ?_
        refine TL.nil (nt ?_)
        refine TC.block ?_
        refine TC.loop (ι := Nat) (fun j => j ≤ k) (fun j => [(7, .pointer (some ⟨tb, 0, none⟩)), (8, .int .i64 (k : Int)), (9, .slice ad k cap), (21, .int .i64 (j : Int))]) (fun j => sepL [slc 63 5 (some ⟨tb, 0, none⟩) 256 256 (tabC l), slc 27 1 ad k cap (nums .u32 (hs k)), F]) (fun j => k - j) 0 (Nat.zero_le _) ⟨rfl, rfl, rfl, rfl, trivial⟩ (ent_take 0 rfl (ent_take 0 rfl (ent_take 0 rfl (ent_nil _)))) ?_
        rintro i hik ρ2
        dsimp only [updL] at hik ⊢
        refine TC.seq ?_
        refine TC.seq ?_
        refine TC.region ?_
        refine q rfl rfl (mv (v := .int _ _) rfl) ?_
        refine q rfl rfl (mv (v := .int _ _) rfl) ?_
        refine q rfl rfl (lss rfl rfl) ?_
        refine TL.nil (nt ?_)
        first | refine TC.condD rfl (fun hlt => ?_) (fun hlt => ?_) | refine TC.cond rfl (fun hlt => ?_) (fun hlt => ?_)
        · have hlt : i < k := by omega
          obtain ⟨hg, hki, hfr2⟩ := hinv.stale hlt (by omega)
          have hpos : 0 < (nums .u32 (hs k)).length := by omega
          refine TC.skip (nt ?_)
          refine TC.seq ?_
          refine TC.block ?_
          refine TC.seq ?_
          refine TC.region ?_
          refine q rfl rfl (mv (v := .pointer _) rfl) ?_
          refine q rfl rfl (mv (v := .slice _ _ _) rfl) ?_
          refine q rfl rfl (mv (v := .int _ _) rfl) ?_
          first | refine q rfl rfl (ixS 27 1 rfl rfl rfl (by omega) (by first | assumption | (simp [ints_length] <;> omega))) ?_ | refine q rfl rfl (ixJ 27 1 rfl rfl rfl (by omega) (by omega) (by first | assumption | (simp [ints_length] <;> omega))) ?_ | refine q rfl rfl (ix 27 1 rfl rfl rfl (by omega) (by omega) rfl) ?_
          first | refine q rfl rfl (ld rfl rfl rfl) ?_ | refine q rfl rfl (ldS rfl rfl (nums_get (hs_get hlt))) ?_ | refine q rfl rfl (ldS rfl rfl rfl) ?_
          refine e rfl ?_
          refine cl (get_ok tb l i hinv.ok (by omega)) rfl (picked_nil _) ⟨_, RdSI.rd⟩ ?_
          intro _ _
          change TL _ _ _ _ _ _ _ _ (sepL [_, _, _])
          rw [hg]
          dsimp only
          refine q rfl rfl (mv (v := .tuple _) rfl) ?_
          refine q rfl rfl (pu (v := .agg (List.toArray (ints [_, _, _]))) (fun _ => rfl)) ?_
          refine q rfl rfl (pu (v := .int _ _) (fun _ => rfl)) ?_
          refine e rfl ?_
          refine al (l := ints [_, _, _]) rfl rfl ?_
          intro b4
          refine e0 ?_
          refine st (v := .agg (List.toArray (ints [_, _, _]))) (vs := ints [_, _, _]) 3 rfl rfl rfl rfl rfl rfl (Nat.le_of_ble_eq_true rfl) rfl ?_
          refine q rfl rfl (asg (v := .int _ _) rfl) ?_
          refine TL.nil (nt ?_)
          refine TC.seq ?_
          refine TC.region ?_
          refine q rfl rfl (mv (v := .pointer _) rfl) ?_
          refine q rfl rfl (mv (v := .slice _ _ _) rfl) ?_
          refine q rfl rfl (mv (v := .int _ _) rfl) ?_
          first | refine q rfl rfl (ixS 27 1 rfl rfl rfl (by omega) (by first | assumption | (simp [ints_length] <;> omega))) ?_ | refine q rfl rfl (ixJ 27 1 rfl rfl rfl (by omega) (by omega) (by first | assumption | (simp [ints_length] <;> omega))) ?_ | refine q rfl rfl (ix 27 1 rfl rfl rfl (by omega) (by omega) rfl) ?_
          first | refine q rfl rfl (ld rfl rfl rfl) ?_ | refine q rfl rfl (ldS rfl rfl (nums_get (hs_get hlt))) ?_ | refine q rfl rfl (ldS rfl rfl rfl) ?_
          refine e rfl ?_
          refine cl (free_ok tb l i hinv.ok (by omega)) rfl (picked_cons 1 rfl (picked_nil _)) trivial ?_
          intro _ _
          change TL _ _ _ _ _ _ _ _ (sepL [_, _, _, _])
          rw [hfr2]
          dsimp only
          refine q rfl rfl (mv (v := .tuple _) rfl) ?_
          refine q rfl rfl (pu (v := .agg (List.toArray (ints [_, _, _]))) (fun _ => rfl)) ?_
          refine q rfl rfl (pu (v := .int _ _) (fun _ => rfl)) ?_
          refine e rfl ?_
          refine al (l := ints [_, _, _]) rfl rfl ?_
          intro b5
          refine e0 ?_
          refine st (v := .agg (List.toArray (ints [_, _, _]))) (vs := ints [_, _, _]) 3 rfl rfl rfl rfl rfl rfl (Nat.le_of_ble_eq_true rfl) rfl ?_
          refine q rfl rfl (asg (v := .int _ _) rfl) ?_
          refine TL.nil (nt ?_)
          refine TC.seq ?_
          refine TC.region ?_
          refine q rfl rfl (mv (v := .int _ _) rfl) ?_
          refine q rfl rfl (neI rfl rfl) ?_
          refine q rfl rfl (mv (v := .bool _) rfl) ?_
          refine TL.known 133 rfl (c := false) (by decide) ?_
          refine qg rfl rfl rfl (mv (v := .pointer _) rfl) ?_
          refine qg rfl rfl rfl (mv (v := .slice _ _ _) rfl) ?_
          refine qg rfl rfl rfl (mv (v := .int _ _) rfl) ?_
          first | refine qg rfl rfl rfl (ixS 27 1 rfl rfl rfl (by omega) (by first | assumption | (simp [ints_length] <;> omega))) ?_ | refine qg rfl rfl rfl (ixJ 27 1 rfl rfl rfl (by omega) (by omega) (by first | assumption | (simp [ints_length] <;> omega))) ?_ | refine qg rfl rfl rfl (ix 27 1 rfl rfl rfl (by omega) (by omega) rfl) ?_
          first | refine qg rfl rfl rfl (ld rfl rfl rfl) ?_ | refine qg rfl rfl rfl (ldS rfl rfl (nums_get (hs_get hlt))) ?_ | refine qg rfl rfl rfl (ldS rfl rfl rfl) ?_
          refine eg rfl rfl ?_
          refine cl (kill_ok tb l i hinv.ok (by omega)) rfl (picked_cons 1 rfl (picked_nil _)) trivial ?_
          intro _ _
          change TL _ _ _ _ _ _ _ _ (sepL [_, _, _, _, _])
          rw [hki]
          dsimp only
          refine qg rfl rfl rfl (neI rfl rfl) ?_
          first | refine q rfl rfl (pkT rfl rfl) ?_ | refine q rfl rfl (pkF rfl rfl) ?_
          refine q rfl rfl (mv (v := .bool _) rfl) ?_
          refine TL.known 142 rfl (c := false) (by decide) ?_
          refine qg rfl rfl rfl (mv (v := .int _ _) rfl) ?_
          refine qg rfl rfl rfl (neI rfl rfl) ?_
          first | refine q rfl rfl (pkT rfl rfl) ?_ | refine q rfl rfl (pkF rfl rfl) ?_
          refine TL.nil (nt ?_)
          refine TC.condD rfl (fun hc3 => absurd hc3 (by decide)) (fun hc3 => ?_)
          refine TC.skip (nb (nt ?_))
          refine TC.region ?_
          refine q rfl rfl (mv (v := .int _ _) rfl) ?_
          first | refine q rfl rfl (addI rfl rfl (by omega) (by omega)) ?_ | refine q rfl rfl (add rfl rfl rfl) ?_
          refine q rfl rfl (asg (v := .int _ _) rfl) ?_
          refine TL.nil (nt ?_)
          exact ⟨rfl, (i + 1), (by omega), (by omega), ⟨rfl, rfl, rfl, rfl, trivial⟩, (ent_take 0 rfl (ent_take 2 rfl (ent_take 2 rfl (ent_nil _))))⟩
        · refine TC.exit (et (et (eb (nt ?_))))
          refine TC.seq ?_
          refine TC.region ?_
          refine e rfl ?_
          refine cl alive_ok rfl (picked_nil _) trivial ?_
          intro _ _
          change TL _ _ _ _ _ _ _ _ (sepL [_, _, _])
          refine q rfl rfl (asg (v := .bool _) rfl) ?_
          refine TL.nil (nt ?_)
          refine TC.ret ?_
          exact Ret.i () [_] ⟨rfl, trivial⟩ rfl trivial (ent_take 2 rfl (ent_nil _))

end Go.Proofs.Ytjnjijgplmmaiaa
