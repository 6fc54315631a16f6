/-
  Proved here: what functions of this program compute, each as a contract over symbolic states, under the premises that each theorem names (most lines printed by a program of the prover).
-/
import Derived.Test.YtgmniphegombhaaMtK
namespace Go.Proofs.Ytgmniphegombhaa
open Go Go.QM
def gI (f : Int → Int) (j v : Nat) : Value := .int .i64 (if v < j then f v else 0)
theorem gI_set (f : Int → Int) {n j : Nat} (h : j < n) : splice j [.int .i64 (f j)] (fl n (gI f j)) = fl n (gI f (j + 1)) := by
  refine fl_set h ?_ fun u hu => ?_
  · rw [gI, if_pos (by omega)]
  · rw [gI, gI]
    by_cases hl : u < j
    · rw [if_pos hl, if_pos (by omega)]
    · rw [if_neg hl, if_neg (by omega)]
theorem gI_get (f : Int → Int) {n j i : Nat} (h : i < n) (hj : i < j) : (fl n (gI f j))[i]? = some (.int .i64 (f i)) := by rw [fl_get _ h, gI, if_pos hj]
def gG (f : Int → Int) (Gn : List Int) (v : Nat) : Value := .int .i64 (if (v : Int) ∈ Gn then -2 else f v)
theorem gI_gG (f : Int → Int) (n : Nat) : fl n (gI f n) = fl n (gG f []) := fl_congr fun v hv => by rw [gI, gG, if_pos hv, if_neg (by simp)]
theorem gG_set (f : Int → Int) {n k : Nat} {Gn : List Int} {x : Int} (hx : Gn[k]? = some x) (h0 : 0 ≤ x) (h1 : x < n) : splice x.toNat [.int .i64 (-2)] (fl n (gG f (Gn.take k))) = fl n (gG f (Gn.take (k + 1))) := by
  have ht : ∀ y, y ∈ Gn.take (k + 1) ↔ y ∈ Gn.take k ∨ y = x := fun y => by rw [List.take_add_one, hx]; simp
  refine fl_set (by omega) ?_ fun u hu => ?_
  · rw [gG, if_pos ((ht _).2 (.inr (by omega)))]
  · rw [gG, gG]
    by_cases hm : (u : Int) ∈ Gn.take k
    · rw [if_pos hm, if_pos ((ht _).2 (.inl hm))]
    · rw [if_neg hm, if_neg (fun h => ((ht _).1 h).elim hm (by omega))]
theorem gG_get (f : Int → Int) {n : Nat} {Gn : List Int} {x : Int} (h0 : 0 ≤ x) (h1 : x < n) : (fl n (gG f Gn))[x.toNat]? = some (.int .i64 (if x ∈ Gn then -2 else f x)) := by
  rw [fl_get _ (by omega), gG, Int.toNat_of_nonneg h0]
theorem take_fresh {b : List Int} (h : b.Nodup) {i : Nat} {x : Int} (hx : b[i]? = some x) : x ∉ b.take i := fun h2 => by
  obtain ⟨j, hj⟩ := List.getElem?_of_mem h2
  rw [List.getElem?_take] at hj
  split at hj
  · obtain ⟨a1, b1⟩ := List.getElem?_eq_some_iff.1 hj
    obtain ⟨a2, b2⟩ := List.getElem?_eq_some_iff.1 hx
    exact (List.pairwise_iff_getElem.1 h) j i a1 a2 (by omega) (by rw [b1, b2])
  · cases hj
theorem WM.pnc {s : MS} (h : WM s) {k : Int} (hk : k ∈ s.ids) : s.pn k ≠ k ∧ -1 ≤ s.pn k := by
  have h0 := h.ge k hk
  rcases h.rg k hk with e | e | e | e
  · have := h.idle k hk (by omega) (by omega); omega
  · obtain ⟨h1, o, h2, h3⟩ := h.snd k hk e
    have h4 := h.row _ h1 o h2
    have h5 := h.ge _ h1
    exact ⟨fun e2 => h4.2.1 (by rw [h3]; exact e2.symm), by omega⟩
  · have := h.idle k hk (by omega) (by omega); omega
  · obtain ⟨h1, h2⟩ := h.ask k hk e
    have h3 := h.cal _ h1 (by omega)
    have h5 := h.ge _ h1
    exact ⟨fun e2 => h3.2.1 (by rw [h2]; exact e2.symm), by omega⟩
theorem pnR_ge {s : MS} (h : WM s) (k : Int) : -1 ≤ pnR s k := by
  rw [pnR]; split
  · rename_i hk; exact (h.pnc hk).2
  · omega
theorem call_oth (s : MS) {id x : Int} (hx : x ≠ id) : (callS s id).1.st x = s.st x ∧ (callS s id).1.pn x = s.pn x := by
  rw [callS]
  split
  · exact ⟨rfl, rfl⟩
  · split
    · exact ⟨rfl, rfl⟩
    · split
      · exact ⟨updI_ne hx, updI_ne hx⟩
      · split
        · exact ⟨updI_ne hx, updI_ne hx⟩
        · exact ⟨updI_ne hx, updI_ne hx⟩
structure LV (W : MS) (id : Int) (V : MS) (Gn : List Int) : Prop where
  ids : ∀ k, k ∈ V.ids ↔ k ∈ W.ids ∧ k ≠ id
  st : ∀ k, k ≠ id → V.st k = if k ∈ Gn then 0 else W.st k
  pn : ∀ k, k ≠ id → V.pn k = if k ∈ Gn then -1 else W.pn k
  mem : ∀ k, k ∈ Gn ↔ k ∈ W.ids ∧ W.pn k = id
  nd : Gn.Nodup
theorem leave_lv {W : MS} (h : WM W) {id : Int} (hi : id ∈ W.ids) : LV W id (leaveS W id).1 (leaveS W id).2.1 ∧ (leaveS W id).2.2 = 0 := by
  have hS := h.call id
  obtain ⟨hs0, hids⟩ := call_st W id hi
  have hi2 : id ∈ (callS W id).1.ids := by rw [hids]; exact hi
  have hoth : ∀ x, x ≠ id → (callS W id).1.st x = W.st x ∧ (callS W id).1.pn x = W.pn x := fun x hx => call_oth W hx
  have e : leaveS W id = (dropS (frL (rowS (callS W id).1 id []) (goneL (callS W id).1 id)) id, goneL (callS W id).1 id, 0) := by rw [leaveS, if_neg (fun h2 => h2 hi)]
  rw [e]
  generalize (callS W id).1 = S at hS hs0 hids hi2 hoth ⊢
  dsimp only
  refine ⟨⟨fun k => ?_, fun k hk => ?_, fun k hk => ?_, fun k => ?_, ?_⟩, rfl⟩
  · have : k ∈ (S.ids.filter fun y => decide (y ≠ id)) ↔ k ∈ S.ids ∧ k ≠ id := by simp
    rw [← hids]; exact this
  · show (if k ∈ goneL S id then 0 else S.st k) = _
    rw [(hoth k hk).1]
  · show (if k ∈ goneL S id then -1 else S.pn k) = _
    rw [(hoth k hk).2]
  · constructor
    · intro hk
      have := gone_mem hS hi2 hk
      rw [hids] at this
      exact ⟨this.1, by rw [← (hoth k this.2.1).2]; exact this.2.2.1⟩
    · rintro ⟨h1, h2⟩
      have hne : k ≠ id := fun e2 => (h.pnc h1).1 (by rw [h2]; exact e2.symm)
      have h0 := h.ge k h1
      have h0i := h.ge id hi
      have hkS : k ∈ S.ids := by rw [hids]; exact h1
      have hp : S.pn k = id := by rw [(hoth k hne).2]; exact h2
      rcases hS.rg k hkS with e | e | e | e
      · have := hS.idle k hkS (by omega) (by omega); omega
      · obtain ⟨_, o, ho, h3⟩ := hS.snd k hkS e
        rw [hp] at ho
        exact List.mem_append.2 (.inl (List.mem_map.2 ⟨o, ho, h3⟩))
      · have := hS.idle k hkS (by omega) (by omega); omega
      · obtain ⟨_, h3⟩ := hS.ask k hkS e
        rw [hp] at h3
        refine List.mem_append.2 (.inr ?_)
        rw [h3, if_pos (by omega)]; simp
  · rw [goneL, List.nodup_append]
    refine ⟨hS.nr id hi2, by split <;> simp, fun a ha c hc e2 => ?_⟩
    obtain ⟨o, ho, rfl⟩ := List.mem_map.1 ha
    have h1 := (hS.row id hi2 o ho).2.2.1
    split at hc
    · rename_i hcl
      have h2 := (hS.cal id hi2 hcl).2.2.1
      rw [List.mem_singleton.1 hc] at e2
      rw [e2, h2] at h1; omega
    · cases hc
/-- Those whose partner it is. -/
def plL (W : MS) (id : Int) : Nat → List Int
  | 0 => []
  | n + 1 => if pnR W n = id then plL W id n ++ [(n : Int)] else plL W id n
theorem plL_mem {W : MS} {id x : Int} : ∀ {n : Nat}, x ∈ plL W id n ↔ (0 ≤ x ∧ x < n) ∧ pnR W x = id
  | 0 => ⟨(fun h => by cases h), (fun h => by omega)⟩
  | n + 1 => by
    have ih := plL_mem (W := W) (id := id) (x := x) (n := n)
    rw [plL]
    split
    · rename_i h
      rw [List.mem_append, List.mem_singleton, ih]
      constructor
      · rintro (h1 | rfl)
        · exact ⟨by omega, h1.2⟩
        · exact ⟨by omega, h⟩
      · rintro ⟨h1, h2⟩
        by_cases e : x = (n : Int)
        · exact .inr e
        · exact .inl ⟨by omega, h2⟩
    · rename_i h
      rw [ih]
      constructor
      · rintro ⟨h1, h2⟩; exact ⟨by omega, h2⟩
      · rintro ⟨h1, h2⟩
        have : x ≠ (n : Int) := fun e => h (e ▸ h2)
        exact ⟨by omega, h2⟩
theorem plL_nd (W : MS) (id : Int) : ∀ n : Nat, (plL W id n).Nodup
  | 0 => List.nodup_nil
  | n + 1 => by
    rw [plL]
    split
    · refine List.nodup_append.2 ⟨plL_nd W id n, by simp, fun x hx y hy e => ?_⟩
      have h1 := (plL_mem.1 hx).1
      rw [List.mem_singleton] at hy; omega
    · exact plL_nd W id n
theorem plL_le (W : MS) (id : Int) : ∀ n : Nat, (plL W id n).length ≤ n
  | 0 => Nat.le_refl _
  | n + 1 => by
    have := plL_le W id n
    rw [plL]; split
    · rw [List.length_append, List.length_singleton]; omega
    · omega
theorem plL_all {W V : MS} {id : Int} {Gn : List Int} (h : LV W id V Gn) (hP : P8 W) (h0 : 0 ≤ id) : (plL W id 8).length = Gn.length := by
  have key : ∀ x, x ∈ plL W id 8 ↔ x ∈ Gn := fun x => by
    rw [plL_mem, h.mem]
    constructor
    · rintro ⟨_, h2⟩
      rw [pnR] at h2
      split at h2
      · rename_i hx; exact ⟨hx, h2⟩
      · omega
    · rintro ⟨h1, h2⟩
      have := hP.rg x h1
      exact ⟨by omega, by rw [pnR, if_pos h1]; exact h2⟩
  have h1 := nodup_sub_len (plL_nd W id 8) fun x hx => (key x).1 hx
  have h2 := nodup_sub_len h.nd fun x hx => (key x).2 hx
  omega

set_option maxRecDepth 4000 in
set_option maxHeartbeats 2000000 in
theorem leaves_ok (ad : Option Addr) (l : List MAct) (cap : Nat) (w : Int) (hw : 0 ≤ w ∧ w ≤ 255) : FSpec Try.prog 5 [.slice ad l.length cap, .int .u8 w] (fun F => ∃ E, RdS F E ad (mactsC l)) [] (fun _ : Unit => .bool true) (fun _ => True) (fun _ => []) := by
  refine FSpec.intro (rs := [.tmp 4]) (by kernel_rfl) Try.func5 rfl Try.ntmps5 (by rfl) rfl ?_
  intro F ⟨E, hF⟩
  change TC _ _ _ _ _ _ _ (sepL [_])
  haveI : RdSI F ad E (mactsC l) := ⟨hF⟩
  refine TC.seq ?_
  refine TC.region ?_
  refine q rfl rfl (asg (v := .bool _) rfl) ?_
  refine TL.nil (nt ?_)
  refine TC.seq ?_
  refine TC.seq ?_
  refine TC.region ?_
  refine e rfl ?_
  refine cl alive_ok rfl (picked_nil _) trivial ?_
  intro _ _
  change TL _ _ _ _ _ _ _ _ (sepL [_])
  first | refine q rfl rfl (notD rfl) ?_ | refine q rfl rfl (notB rfl) ?_
  refine TL.nil (nt ?_)
  refine TC.condF rfl ?_
  refine TC.skip (nt ?_)
  refine TC.seq ?_
  refine TC.seq ?_
  refine TC.region ?_
  refine q rfl rfl (mv (v := .slice _ _ _) rfl) ?_
  refine q rfl rfl (len 63 5 rfl rfl) ?_
  refine q rfl rfl (gtr rfl rfl) ?_
  refine TL.nil (nt ?_)
  first | refine TC.condD rfl (fun hbig => ?_) (fun hbig => ?_) | refine TC.cond rfl (fun hbig => ?_) (fun hbig => ?_)
  · refine TC.seq ?_
    refine TC.region ?_
    refine q rfl rfl (asg (v := .bool _) rfl) ?_
    refine TL.nil (nt ?_)
    refine TC.ret (rt ?_)
    exact Ret.i () [_] ⟨rfl, trivial⟩ rfl trivial (ent_take 0 rfl (ent_nil _))
  · refine TC.skip (nt ?_)
    refine TC.seq ?_
    refine TC.region ?_
    refine e rfl ?_
    refine cl (mnew_ok (fun _ => 0)) rfl (picked_nil _) trivial ?_
    intro a _
    change TL _ _ _ _ _ _ _ _ (sepL [_, _])
    refine q rfl rfl (asg (v := .pointer _) rfl) ?_
    refine TL.nil (nt ?_)
    refine TC.seq ?_
    refine TC.seq ?_
    refine TC.region ?_
    refine q rfl rfl (mv (v := .pointer _) rfl) ?_
    refine e rfl ?_
    refine bs (E := 3) (sz := 1) (cs := ints [0, 1, 2, 3, 4, 5, 6, 7]) (by kernel_rfl) ?_
    intro b1
    refine e rfl ?_
    refine cl (mjoin_ok a (fun _ => 0) s0 (some ⟨b1, 0, none⟩) _ [0, 1, 2, 3, 4, 5, 6, 7] (by decide) (by decide)) rfl PkL.p ⟨_, RdSI.rd (ad := some ⟨b1, 0, none⟩)⟩ ?_
    intro A0 _
    change TL _ _ _ _ _ _ _ _ (sepL [_, _, _])
    rw [show ((joinL s0 [0, 1, 2, 3, 4, 5, 6, 7]).ids.length : Int) - (s0.ids.length : Int) = 8 from by kernel_rfl]
    refine q rfl rfl (neI rfl rfl) ?_
    refine TL.nil (nt ?_)
    refine TC.condD rfl (fun hc1 => absurd hc1 (by decide)) (fun hc1 => ?_)
    refine TC.skip (nt ?_)
    refine TC.seq ?_
    refine TC.region ?_
    refine q rfl rfl (mv (v := .pointer _) rfl) ?_
    refine q rfl rfl (mv (v := .slice _ _ _) rfl) ?_
    refine e rfl ?_
    refine cl (play_ok a A0 _ P8.start ad l cap (by omega)) rfl PkL.p ⟨_, RdSI.rd (ad := ad)⟩ ?_
    intro ys hP
    change TL _ _ _ _ _ _ _ _ (sepL [_, _, _])
    obtain ⟨A1, s1⟩ := ys
    dsimp only at hP ⊢
    obtain ⟨id, hid, h0, h7⟩ : ∃ id, id = w % 8 ∧ 0 ≤ id ∧ id ≤ 7 := ⟨_, rfl, by omega, by omega⟩
    have hsl := hP.len
    refine TL.nil (nt ?_)
    refine TC.seq ?_
    refine TC.region ?_
    refine q rfl rfl (mv (v := .int _ _) rfl) ?_
    first | refine q rfl rfl (conv .u8 .i64 rfl rfl rfl (wi64 (by omega) (by omega))) ?_ | refine q rfl rfl (conv .u8 .i64 rfl rfl rfl rfl) ?_
    first | refine q rfl rfl (remI rfl rfl (by omega) (by omega)) ?_ | refine q rfl rfl (rem rfl rfl (by omega) rfl) ?_
    refine q rfl rfl (asg (v := .int _ _) rfl) ?_
    refine TL.nil (nt ?_)
    refine TC.seq ?_
    refine TC.region ?_
    refine q rfl rfl (mv (v := .pointer _) rfl) ?_
    refine q rfl rfl (mv (v := .int _ _) rfl) ?_
    refine e rfl ?_
    refine bs (cs := [.int _ _]) rfl ?_
    intro b2
    rw [← hid]
    refine e rfl ?_
    refine cl (mjoin_ok a A1 s1 (some ⟨b2, 0, none⟩) _ [id] (by simp) (by omega)) rfl PkL.p ⟨_, RdSI.rd (ad := some ⟨b2, 0, none⟩)⟩ ?_
    intro A _
    change TL _ _ _ _ _ _ _ _ (sepL [_, _, _, _])
    rw [show joinL s1 [id] = joinS s1 id from rfl]
    have hPW := hP.join ⟨h0, h7⟩
    have hme : id ∈ (joinS s1 id).ids := by
      rw [joinS]; split
      · rename_i hx; exact hx.elim (fun h => h) (fun h => by omega)
      · simp
    generalize joinS s1 id = W at hPW hme ⊢
    obtain ⟨hLV, hz⟩ := leave_lv hPW.wm hme
    have hpl := plL_all hLV hPW h0
    have hWl := hPW.len
    refine TL.nil (nt ?_)
    refine TC.seq ?_
    refine TC.region ?_
    refine e rfl ?_
    refine al (l := [.int _ _, .int _ _, .int _ _, .int _ _, .int _ _, .int _ _, .int _ _, .int _ _]) rfl rfl ?_
    intro b3
    refine e rfl ?_
    refine al (l := [.int _ _, .int _ _, .int _ _, .int _ _, .int _ _, .int _ _, .int _ _, .int _ _]) rfl rfl ?_
    intro b4
    refine TL.nil (nt ?_)
    refine TC.seq ?_
    refine TC.region ?_
    refine q rfl rfl (asg (v := .int _ _) rfl) ?_
    refine TL.nil (nt ?_)
    refine TC.seq ?_
    refine TC.seq ?_
    refine TC.region ?_
    refine q rfl rfl (asg (v := .int _ _) rfl) ?_
    refine TL.nil (nt ?_)
    refine TC.block ?_
    refine TC.loop (ι := Nat) (fun j => j ≤ 8) (fun j => [(5, .pointer (some ⟨a, 0, none⟩)), (6, .int .i64 id), (7, .pointer (some ⟨b3, 0, none⟩)), (8, .pointer (some ⟨b4, 0, none⟩)), (9, .int .i64 ((plL W id j).length : Int)), (10, .int .i64 ((j : Nat) : Int))]) (fun j => sepL [pts b3 44 (fl 8 (gI (stR W) j)), pts b4 44 (fl 8 (gI (pnR W) j)), isMa a A W, F]) (fun j => 8 - j) 0 (Nat.zero_le _) ⟨rfl, rfl, rfl, rfl, rfl, rfl, trivial⟩ (ent_takeE 1 rfl (by kernel_rfl) (ent_takeE 0 rfl (by kernel_rfl) (by repeat (first | exact ent_nil _ | refine ent_take 0 rfl ?_ | refine ent_take 1 rfl ?_ | refine ent_take 2 rfl ?_ | refine ent_take 3 rfl ?_ | refine ent_take 4 rfl ?_ | refine ent_take 5 rfl ?_ | refine ent_take 6 rfl ?_ | refine ent_take 7 rfl ?_ | refine ent_take 8 rfl ?_ | refine ent_take 9 rfl ?_ | refine ent_take 10 rfl ?_ | refine ent_take 11 rfl ?_ | refine ent_take 12 rfl ?_)))) ?_
    rintro j hj ρ1
    dsimp only [updL] at hj ⊢
    refine TC.seq ?_
    refine TC.seq ?_
    refine TC.region ?_
    refine q rfl rfl (mv (v := .int _ _) rfl) ?_
    refine q rfl rfl (lss rfl rfl) ?_
    refine TL.nil (nt ?_)
    first | refine TC.condD rfl (fun hlt => ?_) (fun hlt => ?_) | refine TC.cond rfl (fun hlt => ?_) (fun hlt => ?_)
    · have hj8 : j < 8 := by omega
      have hpj := plL_le W id j
      have hsn : plL W id (j + 1) = if pnR W j = id then plL W id j ++ [(j : Int)] else plL W id j := rfl
      refine TC.skip (nt ?_)
      refine TC.seq ?_
      refine TC.block ?_
      refine TC.seq ?_
      refine TC.region ?_
      refine q rfl rfl (mv (v := .int _ _) rfl) ?_
      refine q rfl rfl (mv (v := .pointer _) rfl) ?_
      refine q rfl rfl (mv (v := .int _ _) rfl) ?_
      refine e rfl ?_
      refine cl (mstate_ok a A W j) rfl PkL.p trivial ?_
      intro _ _
      change TL _ _ _ _ _ _ _ _ (sepL [_, _, _, _])
      refine q rfl rfl (ixAl 8 3 1 rfl rfl rfl (by omega) (by omega)) ?_
      refine e0 ?_
      first | refine st (v := .int _ _) (vs := [_]) 1 rfl rfl rfl rfl rfl rfl (Nat.le_of_ble_eq_true rfl) rfl ?_ | refine st (v := .int _ _) (vs := [_]) 1 rfl rfl rfl rfl rfl rfl (by rw [fl_length]; simp <;> omega) ((congrArg (fun n => splice n [.int .i64 (stR W j)] (fl 8 (gI (stR W) j))) (by rw [Nat.zero_add, Nat.mul_one, Int.toNat_natCast])).trans (gI_set (stR W) hj8)) ?_ | refine st (v := .int _ _) (vs := [_]) 1 rfl rfl rfl rfl rfl rfl (by rw [fl_length]; simp <;> omega) ((congrArg (fun n => splice n [.int .i64 (pnR W j)] (fl 8 (gI (pnR W) j))) (by rw [Nat.zero_add, Nat.mul_one, Int.toNat_natCast])).trans (gI_set (pnR W) hj8)) ?_
      refine TL.nil (nt ?_)
      refine TC.seq ?_
      refine TC.region ?_
      refine q rfl rfl (mv (v := .int _ _) rfl) ?_
      refine q rfl rfl (mv (v := .pointer _) rfl) ?_
      refine q rfl rfl (mv (v := .int _ _) rfl) ?_
      refine e rfl ?_
      refine cl (mpartner_ok a A W j) rfl PkL.p trivial ?_
      intro _ _
      change TL _ _ _ _ _ _ _ _ (sepL [_, _, _, _])
      refine q rfl rfl (ixAl 8 3 1 rfl rfl rfl (by omega) (by omega)) ?_
      refine e0 ?_
      first | refine st (v := .int _ _) (vs := [_]) 1 rfl rfl rfl rfl rfl rfl (Nat.le_of_ble_eq_true rfl) rfl ?_ | refine st (v := .int _ _) (vs := [_]) 1 rfl rfl rfl rfl rfl rfl (by rw [fl_length]; simp <;> omega) ((congrArg (fun n => splice n [.int .i64 (stR W j)] (fl 8 (gI (stR W) j))) (by rw [Nat.zero_add, Nat.mul_one, Int.toNat_natCast])).trans (gI_set (stR W) hj8)) ?_ | refine st (v := .int _ _) (vs := [_]) 1 rfl rfl rfl rfl rfl rfl (by rw [fl_length]; simp <;> omega) ((congrArg (fun n => splice n [.int .i64 (pnR W j)] (fl 8 (gI (pnR W) j))) (by rw [Nat.zero_add, Nat.mul_one, Int.toNat_natCast])).trans (gI_set (pnR W) hj8)) ?_
      refine TL.nil (nt ?_)
      refine TC.seq ?_
      refine TC.region ?_
      refine q rfl rfl (mv (v := .int _ _) rfl) ?_
      refine q rfl rfl (ixAl 8 3 1 rfl rfl rfl (by omega) (by omega)) ?_
      first | refine q rfl rfl (ld rfl rfl rfl) ?_ | refine q rfl rfl (ld rfl rfl (by rw [Nat.zero_add, Nat.mul_one, Int.toNat_natCast]; exact gI_get (pnR W) hj8 (Nat.lt_succ_self j))) ?_ | refine q rfl rfl (ldS rfl rfl rfl) ?_
      refine q rfl rfl (mv (v := .int _ _) rfl) ?_
      refine q rfl rfl (eqI rfl rfl) ?_
      refine TL.nil (nt ?_)
      first | refine TC.condD rfl (fun hpi => ?_) (fun hpi => ?_) | refine TC.cond rfl (fun hpi => ?_) (fun hpi => ?_)
      · rw [if_pos hpi] at hsn
        refine TC.region ?_
        refine q rfl rfl (mv (v := .int _ _) rfl) ?_
        first | refine q rfl rfl (addI rfl rfl (by omega) (by omega)) ?_ | refine q rfl rfl (add rfl rfl rfl) ?_
        refine q rfl rfl (asg (v := .int _ _) rfl) ?_
        refine TL.nil (nb (nt ?_))
        refine TC.region ?_
        refine q rfl rfl (mv (v := .int _ _) rfl) ?_
        first | refine q rfl rfl (addI rfl rfl (by omega) (by omega)) ?_ | refine q rfl rfl (add rfl rfl rfl) ?_
        refine q rfl rfl (asg (v := .int _ _) rfl) ?_
        refine TL.nil (nt ?_)
        exact ⟨rfl, (j + 1), (by omega), (by omega), ⟨rfl, rfl, rfl, rfl, congrArg (Value.int .i64) (by rw [hsn, List.length_append]; rfl), rfl, trivial⟩, (by repeat (first | exact ent_nil _ | refine ent_take 0 rfl ?_ | refine ent_take 1 rfl ?_ | refine ent_take 2 rfl ?_ | refine ent_take 3 rfl ?_ | refine ent_take 4 rfl ?_ | refine ent_take 5 rfl ?_ | refine ent_take 6 rfl ?_ | refine ent_take 7 rfl ?_ | refine ent_take 8 rfl ?_ | refine ent_take 9 rfl ?_ | refine ent_take 10 rfl ?_ | refine ent_take 11 rfl ?_ | refine ent_take 12 rfl ?_))⟩
      · rw [if_neg hpi] at hsn
        refine TC.skip (nb (nt ?_))
        refine TC.region ?_
        refine q rfl rfl (mv (v := .int _ _) rfl) ?_
        first | refine q rfl rfl (addI rfl rfl (by omega) (by omega)) ?_ | refine q rfl rfl (add rfl rfl rfl) ?_
        refine q rfl rfl (asg (v := .int _ _) rfl) ?_
        refine TL.nil (nt ?_)
        exact ⟨rfl, (j + 1), (by omega), (by omega), ⟨rfl, rfl, rfl, rfl, congrArg (Value.int .i64) (by rw [hsn]), rfl, trivial⟩, (by repeat (first | exact ent_nil _ | refine ent_take 0 rfl ?_ | refine ent_take 1 rfl ?_ | refine ent_take 2 rfl ?_ | refine ent_take 3 rfl ?_ | refine ent_take 4 rfl ?_ | refine ent_take 5 rfl ?_ | refine ent_take 6 rfl ?_ | refine ent_take 7 rfl ?_ | refine ent_take 8 rfl ?_ | refine ent_take 9 rfl ?_ | refine ent_take 10 rfl ?_ | refine ent_take 11 rfl ?_ | refine ent_take 12 rfl ?_))⟩
    · obtain rfl : j = 8 := by omega
      rw [hpl, gI_gG (pnR W)]
      refine TC.exit (et (et (eb (nt ?_))))
      refine TC.seq ?_
      refine TC.region ?_
      refine q rfl rfl (mv (v := .pointer _) rfl) ?_
      refine q rfl rfl (mv (v := .int _ _) rfl) ?_
      refine e rfl ?_
      refine cl (mleave_ok a A W hPW.wm id (by omega)) rfl PkL.p trivial ?_
      intro yl _
      change TL _ _ _ _ _ _ _ _ (sepL [_, _, _, _, _])
      rw [hz]
      obtain ⟨V, hV⟩ : ∃ V, V = (leaveS W id).1 := ⟨_, rfl⟩
      obtain ⟨Gn, hG⟩ : ∃ Gn, Gn = (leaveS W id).2.1 := ⟨_, rfl⟩
      rw [← hV, ← hG] at hLV
      rw [← hG] at hpl
      rw [← hV, ← hG]
      have hGi := ints_length Gn
      have hG8 := plL_le W id 8
      have hstV : stR V id = -1 := if_neg (fun h => ((hLV.ids id).1 h).2 rfl)
      have hGm : ∀ x ∈ Gn, 0 ≤ x ∧ x ≤ 7 ∧ pnR W x = id := fun x hx => by
        obtain ⟨h1, h2⟩ := (hLV.mem x).1 hx
        have := hPW.rg x h1
        exact ⟨this.1, this.2, by rw [pnR, if_pos h1]; exact h2⟩
      have hWg := fun k => pnR_ge hPW.wm k
      refine q rfl rfl (mv (v := .tuple _) rfl) ?_
      refine q rfl rfl (pu (v := .slice _ _ _) (fun _ => rfl)) ?_
      refine q rfl rfl (pu (v := .int _ _) (fun _ => rfl)) ?_
      refine q rfl rfl (asg (v := .slice _ _ _) rfl) ?_
      refine q rfl rfl (asg (v := .int _ _) rfl) ?_
      refine TL.nil (nt ?_)
      refine TC.seq ?_
      refine TC.seq ?_
      refine TC.region ?_
      refine q rfl rfl (mv (v := .int _ _) rfl) ?_
      refine q rfl rfl (neI rfl rfl) ?_
      refine q rfl rfl (mv (v := .bool _) rfl) ?_
      refine TL.known 65 rfl (c := false) (by decide) ?_
      refine qg rfl rfl rfl (mv (v := .slice _ _ _) rfl) ?_
      refine qg rfl rfl rfl (len 3 1 rfl rfl) ?_
      refine qg rfl rfl rfl (mv (v := .int _ _) rfl) ?_
      refine qg rfl rfl rfl (neI rfl rfl) ?_
      first | refine q rfl rfl (pkT (v := .bool _) rfl rfl) ?_ | refine q rfl rfl (pkF (v := .bool _) rfl rfl) ?_
      refine q rfl rfl (mv (v := .bool _) rfl) ?_
      refine TL.known 71 rfl (c := false) (by simp) ?_
      refine qg rfl rfl rfl (mv (v := .pointer _) rfl) ?_
      refine qg rfl rfl rfl (mv (v := .int _ _) rfl) ?_
      refine eg rfl rfl ?_
      refine cl (mstate_ok a A V id) rfl PkL.p trivial ?_
      intro _ _
      change TL _ _ _ _ _ _ _ _ (sepL [_, _, _, _, _])
      rw [hstV]
      refine qg rfl rfl rfl (neI rfl rfl) ?_
      first | refine q rfl rfl (pkT (v := .bool _) rfl rfl) ?_ | refine q rfl rfl (pkF (v := .bool _) rfl rfl) ?_
      refine TL.nil (nt ?_)
      refine TC.condD rfl (fun hc2 => absurd hc2 (by decide)) (fun hc2 => ?_)
      refine TC.skip (nt ?_)
      refine TC.seq ?_
      refine TC.seq ?_
      refine TC.region ?_
      refine q rfl rfl (asg (v := .int _ _) rfl) ?_
      refine TL.nil (nt ?_)
      refine TC.block ?_
      refine TC.loop (ι := Nat) (fun k => k ≤ Gn.length) (fun k => [(5, .pointer (some ⟨a, 0, none⟩)), (6, .int .i64 id), (7, .pointer (some ⟨b3, 0, none⟩)), (8, .pointer (some ⟨b4, 0, none⟩)), (11, .slice yl.1 Gn.length yl.2), (13, .int .i64 ((k : Nat) : Int))]) (fun k => sepL [slc 3 1 yl.1 Gn.length yl.2 (ints Gn), pts b3 44 (fl 8 (gI (stR W) 8)), pts b4 44 (fl 8 (gG (pnR W) (Gn.take k))), isMa a A V, F]) (fun k => Gn.length - k) 0 (Nat.zero_le _) ⟨rfl, rfl, rfl, rfl, rfl, rfl, trivial⟩ (by repeat (first | exact ent_nil _ | refine ent_take 0 rfl ?_ | refine ent_take 1 rfl ?_ | refine ent_take 2 rfl ?_ | refine ent_take 3 rfl ?_ | refine ent_take 4 rfl ?_ | refine ent_take 5 rfl ?_ | refine ent_take 6 rfl ?_ | refine ent_take 7 rfl ?_ | refine ent_take 8 rfl ?_ | refine ent_take 9 rfl ?_ | refine ent_take 10 rfl ?_ | refine ent_take 11 rfl ?_ | refine ent_take 12 rfl ?_)) ?_
      rintro k hk ρ2
      dsimp only [updL] at hk ⊢
      refine TC.seq ?_
      refine TC.seq ?_
      refine TC.region ?_
      refine q rfl rfl (mv (v := .int _ _) rfl) ?_
      refine q rfl rfl (mv (v := .slice _ _ _) rfl) ?_
      refine q rfl rfl (len 3 1 rfl rfl) ?_
      refine q rfl rfl (lss rfl rfl) ?_
      refine TL.nil (nt ?_)
      first | refine TC.condD rfl (fun hlt => ?_) (fun hlt => ?_) | refine TC.cond rfl (fun hlt => ?_) (fun hlt => ?_)
      · have hk2 : k < Gn.length := by omega
        obtain ⟨x, hx⟩ : ∃ x, Gn[k]? = some x := ⟨_, List.getElem?_eq_getElem hk2⟩
        obtain ⟨x0, x7, xp⟩ := hGm x (List.mem_of_getElem? hx)
        have hfr := take_fresh hLV.nd hx
        have hpos : 0 < (ints Gn).length := by omega
        have hgx : (fl 8 (gG (pnR W) (Gn.take k)))[x.toNat]? = some (.int .i64 id) := by rw [gG_get _ x0 (by omega), if_neg hfr, xp]
        refine TC.skip (nt ?_)
        refine TC.seq ?_
        refine TC.block ?_
        refine TC.seq ?_
        refine TC.region ?_
        refine q rfl rfl (mv (v := .slice _ _ _) rfl) ?_
        refine q rfl rfl (mv (v := .int _ _) rfl) ?_
        first | refine q rfl rfl (ixS 3 1 rfl rfl rfl (by omega) (by first | assumption | (simp [ints_length] <;> omega))) ?_ | refine q rfl rfl (ixJ 3 1 rfl rfl rfl (by omega) (by omega) (by first | assumption | (simp [ints_length] <;> omega))) ?_ | refine q rfl rfl (ix 3 1 rfl rfl rfl (by omega) (by omega) rfl) ?_
        first | refine q rfl rfl (ld rfl rfl rfl) ?_ | refine q rfl rfl (ldS rfl rfl (ints_get hx)) ?_ | refine q rfl rfl (ldS rfl rfl rfl) ?_
        refine q rfl rfl (asg (v := .int _ _) rfl) ?_
        refine TL.nil (nt ?_)
        refine TC.seq ?_
        refine TC.seq ?_
        refine TC.region ?_
        refine q rfl rfl (mv (v := .int _ _) rfl) ?_
        refine q rfl rfl (lss rfl rfl) ?_
        refine q rfl rfl (mv (v := .bool _) rfl) ?_
        refine TL.known 89 rfl (c := false) (decide_eq_false (by omega)) ?_
        refine qg rfl rfl rfl (mv (v := .int _ _) rfl) ?_
        refine qg rfl rfl rfl (gtr rfl rfl) ?_
        first | refine q rfl rfl (pkT (v := .bool _) rfl rfl) ?_ | refine q rfl rfl (pkF (v := .bool _) rfl rfl) ?_
        refine q rfl rfl (mv (v := .bool _) rfl) ?_
        refine TL.known 93 rfl (c := false) (decide_eq_false (by omega)) ?_
        refine qg rfl rfl rfl (mv (v := .int _ _) rfl) ?_
        refine qg rfl rfl rfl (ixAl 8 3 1 rfl rfl rfl (by omega) (by omega)) ?_
        first | refine qg rfl rfl rfl (ld rfl rfl rfl) ?_ | refine qg rfl rfl rfl (ld rfl rfl (by rw [Nat.zero_add, Nat.mul_one]; exact hgx)) ?_ | refine qg rfl rfl rfl (ldS rfl rfl (ints_get hx)) ?_ | refine qg rfl rfl rfl (ldS rfl rfl rfl) ?_
        refine qg rfl rfl rfl (mv (v := .int _ _) rfl) ?_
        refine qg rfl rfl rfl (neI rfl rfl) ?_
        first | refine q rfl rfl (pkT (v := .bool _) rfl rfl) ?_ | refine q rfl rfl (pkF (v := .bool _) rfl rfl) ?_
        refine TL.nil (nt ?_)
        refine TC.condD rfl (fun hc3 => absurd hc3 (by simp)) (fun hc3 => ?_)
        refine TC.skip (nt ?_)
        refine TC.region ?_
        refine q rfl rfl (mv (v := .int _ _) rfl) ?_
        refine q rfl rfl (ixAl 8 3 1 rfl rfl rfl (by omega) (by omega)) ?_
        refine e0 ?_
        first | refine st (v := .int _ _) (vs := [_]) 1 rfl rfl rfl rfl rfl rfl (Nat.le_of_ble_eq_true rfl) rfl ?_ | refine st (v := .int _ _) (vs := [_]) 1 rfl rfl rfl rfl rfl rfl (by rw [fl_length]; simp <;> omega) ((congrArg (fun n => splice n [.int .i64 (-2)] (fl 8 (gG (pnR W) (Gn.take k)))) (by rw [Nat.zero_add, Nat.mul_one])).trans (gG_set (pnR W) hx x0 (by omega))) ?_
        refine TL.nil (nb (nt ?_))
        refine TC.region ?_
        refine q rfl rfl (mv (v := .int _ _) rfl) ?_
        first | refine q rfl rfl (addI rfl rfl (by omega) (by omega)) ?_ | refine q rfl rfl (add rfl rfl rfl) ?_
        refine q rfl rfl (asg (v := .int _ _) rfl) ?_
        refine TL.nil (nt ?_)
        exact ⟨rfl, (k + 1), (by omega), (by omega), ⟨rfl, rfl, rfl, rfl, rfl, rfl, trivial⟩, (by repeat (first | exact ent_nil _ | refine ent_take 0 rfl ?_ | refine ent_take 1 rfl ?_ | refine ent_take 2 rfl ?_ | refine ent_take 3 rfl ?_ | refine ent_take 4 rfl ?_ | refine ent_take 5 rfl ?_ | refine ent_take 6 rfl ?_ | refine ent_take 7 rfl ?_ | refine ent_take 8 rfl ?_ | refine ent_take 9 rfl ?_ | refine ent_take 10 rfl ?_ | refine ent_take 11 rfl ?_ | refine ent_take 12 rfl ?_))⟩
      · obtain rfl : k = Gn.length := by omega
        rw [List.take_length]
        refine TC.exit (et (et (eb (nt ?_))))
        refine TC.seq ?_
        refine TC.seq ?_
        refine TC.region ?_
        refine q rfl rfl (asg (v := .int _ _) rfl) ?_
        refine TL.nil (nt ?_)
        refine TC.block ?_
        refine TC.loop (ι := Nat) (fun k => k ≤ 8) (fun k => [(5, .pointer (some ⟨a, 0, none⟩)), (6, .int .i64 id), (7, .pointer (some ⟨b3, 0, none⟩)), (8, .pointer (some ⟨b4, 0, none⟩)), (15, .int .i64 ((k : Nat) : Int))]) (fun k => sepL [pts b3 44 (fl 8 (gI (stR W) 8)), pts b4 44 (fl 8 (gG (pnR W) Gn)), isMa a A V, F]) (fun k => 8 - k) 0 (Nat.zero_le _) ⟨rfl, rfl, rfl, rfl, rfl, trivial⟩ (by repeat (first | exact ent_nil _ | refine ent_take 0 rfl ?_ | refine ent_take 1 rfl ?_ | refine ent_take 2 rfl ?_ | refine ent_take 3 rfl ?_ | refine ent_take 4 rfl ?_ | refine ent_take 5 rfl ?_ | refine ent_take 6 rfl ?_ | refine ent_take 7 rfl ?_ | refine ent_take 8 rfl ?_ | refine ent_take 9 rfl ?_ | refine ent_take 10 rfl ?_ | refine ent_take 11 rfl ?_ | refine ent_take 12 rfl ?_)) ?_
        rintro k hk ρ3
        dsimp only [updL] at hk ⊢
        refine TC.seq ?_
        refine TC.seq ?_
        refine TC.region ?_
        refine q rfl rfl (mv (v := .int _ _) rfl) ?_
        refine q rfl rfl (lss rfl rfl) ?_
        refine TL.nil (nt ?_)
        first | refine TC.condD rfl (fun hlt => ?_) (fun hlt => ?_) | refine TC.cond rfl (fun hlt => ?_) (fun hlt => ?_)
        · refine TC.skip (nt ?_)
          refine TC.seq ?_
          refine TC.block ?_
          refine TC.seq ?_
          refine TC.seq ?_
          refine TC.region ?_
          refine q rfl rfl (mv (v := .int _ _) rfl) ?_
          refine q rfl rfl (mv (v := .int _ _) rfl) ?_
          refine q rfl rfl (eqI rfl rfl) ?_
          refine TL.nil (nt ?_)
          first | refine TC.condD rfl (fun hki => ?_) (fun hki => ?_) | refine TC.cond rfl (fun hki => ?_) (fun hki => ?_)
          · refine TC.exit (et (eb (nt ?_)))
            refine TC.region ?_
            refine q rfl rfl (mv (v := .int _ _) rfl) ?_
            first | refine q rfl rfl (addI rfl rfl (by omega) (by omega)) ?_ | refine q rfl rfl (add rfl rfl rfl) ?_
            refine q rfl rfl (asg (v := .int _ _) rfl) ?_
            refine TL.nil (nt ?_)
            exact ⟨rfl, (k + 1), (by omega), (by omega), ⟨rfl, rfl, rfl, rfl, rfl, trivial⟩, (by repeat (first | exact ent_nil _ | refine ent_take 0 rfl ?_ | refine ent_take 1 rfl ?_ | refine ent_take 2 rfl ?_ | refine ent_take 3 rfl ?_ | refine ent_take 4 rfl ?_ | refine ent_take 5 rfl ?_ | refine ent_take 6 rfl ?_ | refine ent_take 7 rfl ?_ | refine ent_take 8 rfl ?_ | refine ent_take 9 rfl ?_ | refine ent_take 10 rfl ?_ | refine ent_take 11 rfl ?_ | refine ent_take 12 rfl ?_))⟩
          · have hk8 : k < 8 := by omega
            have hg1 : (fl 8 (gI (stR W) 8))[k]? = some (.int .i64 (stR W k)) := gI_get (stR W) hk8 hk8
            have hg2 := gG_get (pnR W) (n := 8) (Gn := Gn) (x := (k : Int)) (by omega) (by omega)
            rw [Int.toNat_natCast] at hg2
            by_cases hkG : (k : Int) ∈ Gn
            · rw [if_pos hkG] at hg2
              have hkV : (k : Int) ∈ V.ids := (hLV.ids k).2 ⟨((hLV.mem k).1 hkG).1, hki⟩
              have e1 : stR V k = 0 := by rw [stR, if_pos hkV, hLV.st k hki, if_pos hkG]
              have e2 : pnR V k = -1 := by rw [pnR, if_pos hkV, hLV.pn k hki, if_pos hkG]
              refine TC.skip (nt ?_)
              refine TC.seq ?_
              refine TC.draw _ [] [(0, false), (1, false), (2, false), (3, false), (4, false), (5, false), (6, false), (7, true), (8, false), (9, false), (10, false), (11, false), (12, false), (13, false), (14, false), (15, false), (16, false), (17, false), (19, false), (20, false), (21, false), (18, true), (22, false), (23, false), (24, false), (25, false), (27, false), (28, false), (29, false), (26, true), (30, false), (31, false), (32, false), (33, false), (34, false), (35, false), (36, false), (38, false), (37, true), (39, false), (40, false)] (by kernel_rfl) (by kernel_rfl) (ent_take 0 rfl (ent_take 0 rfl (ent_nil _))) ?_
              refine dq rfl rfl rfl (mv (v := .int _ _) rfl) ?_
              refine dq rfl rfl rfl (ixAl 8 3 1 rfl rfl rfl (by omega) (by omega)) ?_
              first | refine dq rfl rfl rfl (ld rfl rfl rfl) ?_ | refine dq rfl rfl rfl (ld rfl rfl (by rw [Nat.zero_add, Nat.mul_one, Int.toNat_natCast]; exact hg1)) ?_ | refine dq rfl rfl rfl (ld rfl rfl (by rw [Nat.zero_add, Nat.mul_one, Int.toNat_natCast]; exact hg2)) ?_ | refine dq rfl rfl rfl (ldS rfl rfl rfl) ?_
              refine dq rfl rfl rfl (eqI rfl rfl) ?_
              refine dq rfl rfl rfl (mv (v := .bool _) rfl) ?_
              refine TD.known 113 rfl (b' := true) (by decide) ?_
              refine dg rfl rfl rfl rfl (mv (v := .pointer _) rfl) ?_
              refine dg rfl rfl rfl rfl (mv (v := .int _ _) rfl) ?_
              refine deg rfl rfl rfl ?_
              refine cl (mstate_ok a A V k) rfl PkL.p trivial ?_
              intro _ _
              change ent _ _ ∧ TD _ _ _ _ _ _ _ _ _ _ (sepL [_, _, _, _])
              refine ⟨(by repeat (first | exact ent_nil _ | refine ent_take 0 rfl ?_ | refine ent_take 1 rfl ?_ | refine ent_take 2 rfl ?_ | refine ent_take 3 rfl ?_ | refine ent_take 4 rfl ?_ | refine ent_take 5 rfl ?_ | refine ent_take 6 rfl ?_ | refine ent_take 7 rfl ?_ | refine ent_take 8 rfl ?_ | refine ent_take 9 rfl ?_ | refine ent_take 10 rfl ?_ | refine ent_take 11 rfl ?_ | refine ent_take 12 rfl ?_)), ?_⟩
              rw [e1]
              refine dg rfl rfl rfl rfl (neI rfl rfl) ?_
              first | refine dq rfl rfl rfl (pkT (v := .bool _) rfl rfl) ?_ | refine dq rfl rfl rfl (pkF (v := .bool _) rfl rfl) ?_
              refine dq rfl rfl rfl (mv (v := .bool _) rfl) ?_
              refine TD.known 119 rfl (b' := false) (by decide) ?_
              refine dg rfl rfl rfl rfl (mv (v := .int _ _) rfl) ?_
              refine dg rfl rfl rfl rfl (ixAl 8 3 1 rfl rfl rfl (by omega) (by omega)) ?_
              first | refine dg rfl rfl rfl rfl (ld rfl rfl rfl) ?_ | refine dg rfl rfl rfl rfl (ld rfl rfl (by rw [Nat.zero_add, Nat.mul_one, Int.toNat_natCast]; exact hg1)) ?_ | refine dg rfl rfl rfl rfl (ld rfl rfl (by rw [Nat.zero_add, Nat.mul_one, Int.toNat_natCast]; exact hg2)) ?_ | refine dg rfl rfl rfl rfl (ldS rfl rfl rfl) ?_
              refine dg rfl rfl rfl rfl (neI rfl rfl) ?_
              refine dg rfl rfl rfl rfl (mv (v := .bool _) rfl) ?_
              refine TD.known 124 rfl (b' := false) (by decide) ?_
              refine dk rfl rfl rfl rfl ?_
              refine dk rfl rfl rfl rfl ?_
              refine dk rfl rfl rfl rfl ?_
              refine dk rfl rfl rfl rfl ?_
              refine dk rfl rfl rfl rfl ?_
              refine dke rfl rfl rfl (by repeat (first | exact ent_nil _ | refine ent_take 0 rfl ?_ | refine ent_take 1 rfl ?_ | refine ent_take 2 rfl ?_ | refine ent_take 3 rfl ?_ | refine ent_take 4 rfl ?_ | refine ent_take 5 rfl ?_ | refine ent_take 6 rfl ?_ | refine ent_take 7 rfl ?_ | refine ent_take 8 rfl ?_ | refine ent_take 9 rfl ?_ | refine ent_take 10 rfl ?_ | refine ent_take 11 rfl ?_ | refine ent_take 12 rfl ?_)) ?_
              refine dk rfl rfl rfl rfl ?_
              refine dk rfl rfl rfl rfl ?_
              refine dku rfl rfl rfl rfl ?_
              refine dku rfl rfl rfl rfl ?_
              refine dku rfl rfl rfl rfl ?_
              refine dku rfl rfl rfl rfl ?_
              refine dku rfl rfl rfl rfl ?_
              refine dkue rfl rfl rfl (by repeat (first | exact ent_nil _ | refine ent_take 0 rfl ?_ | refine ent_take 1 rfl ?_ | refine ent_take 2 rfl ?_ | refine ent_take 3 rfl ?_ | refine ent_take 4 rfl ?_ | refine ent_take 5 rfl ?_ | refine ent_take 6 rfl ?_ | refine ent_take 7 rfl ?_ | refine ent_take 8 rfl ?_ | refine ent_take 9 rfl ?_ | refine ent_take 10 rfl ?_ | refine ent_take 11 rfl ?_ | refine ent_take 12 rfl ?_)) ?_
              refine dku rfl rfl rfl rfl ?_
              refine dk rfl rfl rfl rfl ?_
              first | refine dg rfl rfl rfl rfl (pkT (v := .bool _) rfl rfl) ?_ | refine dg rfl rfl rfl rfl (pkF (v := .bool _) rfl rfl) ?_
              first | refine dq rfl rfl rfl (pkT (v := .bool _) rfl rfl) ?_ | refine dq rfl rfl rfl (pkF (v := .bool _) rfl rfl) ?_
              refine dq rfl rfl rfl (mv (v := .bool _) rfl) ?_
              refine TD.known 143 rfl (b' := false) rfl ?_
              refine dg rfl rfl rfl rfl (mv (v := .pointer _) rfl) ?_
              refine dg rfl rfl rfl rfl (mv (v := .int _ _) rfl) ?_
              refine dg rfl rfl rfl rfl (mv (v := .int _ _) rfl) ?_
              refine deg rfl rfl rfl ?_
              refine cl (mpartner_ok a A V k) rfl PkL.p trivial ?_
              intro _ _
              change ent _ _ ∧ TD _ _ _ _ _ _ _ _ _ _ (sepL [_, _, _, _])
              refine ⟨(by repeat (first | exact ent_nil _ | refine ent_take 0 rfl ?_ | refine ent_take 1 rfl ?_ | refine ent_take 2 rfl ?_ | refine ent_take 3 rfl ?_ | refine ent_take 4 rfl ?_ | refine ent_take 5 rfl ?_ | refine ent_take 6 rfl ?_ | refine ent_take 7 rfl ?_ | refine ent_take 8 rfl ?_ | refine ent_take 9 rfl ?_ | refine ent_take 10 rfl ?_ | refine ent_take 11 rfl ?_ | refine ent_take 12 rfl ?_)), ?_⟩
              rw [e2]
              refine dg rfl rfl rfl rfl (eqI rfl rfl) ?_
              first | refine dq rfl rfl rfl (pkT (v := .bool _) rfl rfl) ?_ | refine dq rfl rfl rfl (pkF (v := .bool _) rfl rfl) ?_
              refine TD.nil (nt ?_)
              refine TC.condD rfl (fun hc4 => absurd hc4 (by omega)) (fun hc4 => ?_)
              refine TC.skip (nb (nt ?_))
              refine TC.region ?_
              refine q rfl rfl (mv (v := .int _ _) rfl) ?_
              first | refine q rfl rfl (addI rfl rfl (by omega) (by omega)) ?_ | refine q rfl rfl (add rfl rfl rfl) ?_
              refine q rfl rfl (asg (v := .int _ _) rfl) ?_
              refine TL.nil (nt ?_)
              exact ⟨rfl, (k + 1), (by omega), (by omega), ⟨rfl, rfl, rfl, rfl, rfl, trivial⟩, (by repeat (first | exact ent_nil _ | refine ent_take 0 rfl ?_ | refine ent_take 1 rfl ?_ | refine ent_take 2 rfl ?_ | refine ent_take 3 rfl ?_ | refine ent_take 4 rfl ?_ | refine ent_take 5 rfl ?_ | refine ent_take 6 rfl ?_ | refine ent_take 7 rfl ?_ | refine ent_take 8 rfl ?_ | refine ent_take 9 rfl ?_ | refine ent_take 10 rfl ?_ | refine ent_take 11 rfl ?_ | refine ent_take 12 rfl ?_))⟩
            · rw [if_neg hkG] at hg2
              have hgk := hWg k
              have e1 : stR V k = stR W k := by
                by_cases hkW : (k : Int) ∈ W.ids
                · rw [stR, if_pos ((hLV.ids k).2 ⟨hkW, hki⟩), hLV.st k hki, if_neg hkG, stR, if_pos hkW]
                · rw [stR, if_neg (fun h => hkW ((hLV.ids k).1 h).1), stR, if_neg hkW]
              have e2 : pnR V k = pnR W k := by
                by_cases hkW : (k : Int) ∈ W.ids
                · rw [pnR, if_pos ((hLV.ids k).2 ⟨hkW, hki⟩), hLV.pn k hki, if_neg hkG, pnR, if_pos hkW]
                · rw [pnR, if_neg (fun h => hkW ((hLV.ids k).1 h).1), pnR, if_neg hkW]
              have e3 : pnR W k ≠ id := fun h => by
                rw [pnR] at h
                split at h
                · rename_i hkW; exact hkG ((hLV.mem k).2 ⟨hkW, h⟩)
                · omega
              refine TC.skip (nt ?_)
              refine TC.seq ?_
              refine TC.draw _ [] [(0, false), (1, false), (2, false), (3, false), (4, false), (5, false), (6, false), (7, true), (8, false), (9, false), (10, false), (11, false), (12, false), (13, false), (14, false), (15, false), (16, false), (17, false), (19, false), (20, false), (21, false), (18, true), (22, false), (23, false), (24, false), (25, false), (27, false), (28, false), (29, false), (26, true), (30, false), (31, false), (32, false), (33, false), (34, false), (35, false), (36, false), (38, false), (37, true), (39, false), (40, false)] (by kernel_rfl) (by kernel_rfl) (ent_take 0 rfl (ent_take 0 rfl (ent_nil _))) ?_
              refine dq rfl rfl rfl (mv (v := .int _ _) rfl) ?_
              refine dq rfl rfl rfl (ixAl 8 3 1 rfl rfl rfl (by omega) (by omega)) ?_
              first | refine dq rfl rfl rfl (ld rfl rfl rfl) ?_ | refine dq rfl rfl rfl (ld rfl rfl (by rw [Nat.zero_add, Nat.mul_one, Int.toNat_natCast]; exact hg1)) ?_ | refine dq rfl rfl rfl (ld rfl rfl (by rw [Nat.zero_add, Nat.mul_one, Int.toNat_natCast]; exact hg2)) ?_ | refine dq rfl rfl rfl (ldS rfl rfl rfl) ?_
              refine dq rfl rfl rfl (eqI rfl rfl) ?_
              refine dq rfl rfl rfl (mv (v := .bool _) rfl) ?_
              refine TD.known 113 rfl (b' := false) (decide_eq_false (by omega)) ?_
              refine dk rfl rfl rfl rfl ?_
              refine dk rfl rfl rfl rfl ?_
              refine dke rfl rfl rfl (by repeat (first | exact ent_nil _ | refine ent_take 0 rfl ?_ | refine ent_take 1 rfl ?_ | refine ent_take 2 rfl ?_ | refine ent_take 3 rfl ?_ | refine ent_take 4 rfl ?_ | refine ent_take 5 rfl ?_ | refine ent_take 6 rfl ?_ | refine ent_take 7 rfl ?_ | refine ent_take 8 rfl ?_ | refine ent_take 9 rfl ?_ | refine ent_take 10 rfl ?_ | refine ent_take 11 rfl ?_ | refine ent_take 12 rfl ?_)) ?_
              refine dk rfl rfl rfl rfl ?_
              first | refine dq rfl rfl rfl (pkT (v := .bool _) rfl rfl) ?_ | refine dq rfl rfl rfl (pkF (v := .bool _) rfl rfl) ?_
              refine dq rfl rfl rfl (mv (v := .bool _) rfl) ?_
              refine TD.known 119 rfl (b' := false) rfl ?_
              refine dg rfl rfl rfl rfl (mv (v := .int _ _) rfl) ?_
              refine dg rfl rfl rfl rfl (ixAl 8 3 1 rfl rfl rfl (by omega) (by omega)) ?_
              first | refine dg rfl rfl rfl rfl (ld rfl rfl rfl) ?_ | refine dg rfl rfl rfl rfl (ld rfl rfl (by rw [Nat.zero_add, Nat.mul_one, Int.toNat_natCast]; exact hg1)) ?_ | refine dg rfl rfl rfl rfl (ld rfl rfl (by rw [Nat.zero_add, Nat.mul_one, Int.toNat_natCast]; exact hg2)) ?_ | refine dg rfl rfl rfl rfl (ldS rfl rfl rfl) ?_
              refine dg rfl rfl rfl rfl (neI rfl rfl) ?_
              refine dg rfl rfl rfl rfl (mv (v := .bool _) rfl) ?_
              refine TD.known 124 rfl (b' := true) (decide_eq_true (by omega)) ?_
              refine dg rfl rfl rfl rfl (mv (v := .pointer _) rfl) ?_
              refine dg rfl rfl rfl rfl (mv (v := .int _ _) rfl) ?_
              refine dg rfl rfl rfl rfl (mv (v := .int _ _) rfl) ?_
              refine dg rfl rfl rfl rfl (ixAl 8 3 1 rfl rfl rfl (by omega) (by omega)) ?_
              first | refine dg rfl rfl rfl rfl (ld rfl rfl rfl) ?_ | refine dg rfl rfl rfl rfl (ld rfl rfl (by rw [Nat.zero_add, Nat.mul_one, Int.toNat_natCast]; exact hg1)) ?_ | refine dg rfl rfl rfl rfl (ld rfl rfl (by rw [Nat.zero_add, Nat.mul_one, Int.toNat_natCast]; exact hg2)) ?_ | refine dg rfl rfl rfl rfl (ldS rfl rfl rfl) ?_
              refine deg rfl rfl rfl ?_
              refine cl (mstate_ok a A V k) rfl PkL.p trivial ?_
              intro _ _
              change ent _ _ ∧ TD _ _ _ _ _ _ _ _ _ _ (sepL [_, _, _, _])
              refine ⟨(by repeat (first | exact ent_nil _ | refine ent_take 0 rfl ?_ | refine ent_take 1 rfl ?_ | refine ent_take 2 rfl ?_ | refine ent_take 3 rfl ?_ | refine ent_take 4 rfl ?_ | refine ent_take 5 rfl ?_ | refine ent_take 6 rfl ?_ | refine ent_take 7 rfl ?_ | refine ent_take 8 rfl ?_ | refine ent_take 9 rfl ?_ | refine ent_take 10 rfl ?_ | refine ent_take 11 rfl ?_ | refine ent_take 12 rfl ?_)), ?_⟩
              rw [e1]
              refine dg rfl rfl rfl rfl (neI rfl rfl) ?_
              refine dg rfl rfl rfl rfl (mv (v := .bool _) rfl) ?_
              refine TD.known 132 rfl (b' := false) (by simp) ?_
              refine dg rfl rfl rfl rfl (mv (v := .pointer _) rfl) ?_
              refine dg rfl rfl rfl rfl (mv (v := .int _ _) rfl) ?_
              refine dg rfl rfl rfl rfl (mv (v := .int _ _) rfl) ?_
              refine dg rfl rfl rfl rfl (ixAl 8 3 1 rfl rfl rfl (by omega) (by omega)) ?_
              first | refine dg rfl rfl rfl rfl (ld rfl rfl rfl) ?_ | refine dg rfl rfl rfl rfl (ld rfl rfl (by rw [Nat.zero_add, Nat.mul_one, Int.toNat_natCast]; exact hg1)) ?_ | refine dg rfl rfl rfl rfl (ld rfl rfl (by rw [Nat.zero_add, Nat.mul_one, Int.toNat_natCast]; exact hg2)) ?_ | refine dg rfl rfl rfl rfl (ldS rfl rfl rfl) ?_
              refine deg rfl rfl rfl ?_
              refine cl (mpartner_ok a A V k) rfl PkL.p trivial ?_
              intro _ _
              change ent _ _ ∧ TD _ _ _ _ _ _ _ _ _ _ (sepL [_, _, _, _])
              refine ⟨(by repeat (first | exact ent_nil _ | refine ent_take 0 rfl ?_ | refine ent_take 1 rfl ?_ | refine ent_take 2 rfl ?_ | refine ent_take 3 rfl ?_ | refine ent_take 4 rfl ?_ | refine ent_take 5 rfl ?_ | refine ent_take 6 rfl ?_ | refine ent_take 7 rfl ?_ | refine ent_take 8 rfl ?_ | refine ent_take 9 rfl ?_ | refine ent_take 10 rfl ?_ | refine ent_take 11 rfl ?_ | refine ent_take 12 rfl ?_)), ?_⟩
              rw [e2]
              refine dg rfl rfl rfl rfl (neI rfl rfl) ?_
              first | refine dg rfl rfl rfl rfl (pkT (v := .bool _) rfl rfl) ?_ | refine dg rfl rfl rfl rfl (pkF (v := .bool _) rfl rfl) ?_
              first | refine dg rfl rfl rfl rfl (pkT (v := .bool _) rfl rfl) ?_ | refine dg rfl rfl rfl rfl (pkF (v := .bool _) rfl rfl) ?_
              first | refine dq rfl rfl rfl (pkT (v := .bool _) rfl rfl) ?_ | refine dq rfl rfl rfl (pkF (v := .bool _) rfl rfl) ?_
              refine dq rfl rfl rfl (mv (v := .bool _) rfl) ?_
              refine TD.known 143 rfl (b' := false) (by simp) ?_
              refine dg rfl rfl rfl rfl (mv (v := .pointer _) rfl) ?_
              refine dg rfl rfl rfl rfl (mv (v := .int _ _) rfl) ?_
              refine dg rfl rfl rfl rfl (mv (v := .int _ _) rfl) ?_
              refine deg rfl rfl rfl ?_
              refine cl (mpartner_ok a A V k) rfl PkL.p trivial ?_
              intro _ _
              change ent _ _ ∧ TD _ _ _ _ _ _ _ _ _ _ (sepL [_, _, _, _])
              refine ⟨(by repeat (first | exact ent_nil _ | refine ent_take 0 rfl ?_ | refine ent_take 1 rfl ?_ | refine ent_take 2 rfl ?_ | refine ent_take 3 rfl ?_ | refine ent_take 4 rfl ?_ | refine ent_take 5 rfl ?_ | refine ent_take 6 rfl ?_ | refine ent_take 7 rfl ?_ | refine ent_take 8 rfl ?_ | refine ent_take 9 rfl ?_ | refine ent_take 10 rfl ?_ | refine ent_take 11 rfl ?_ | refine ent_take 12 rfl ?_)), ?_⟩
              rw [e2]
              refine dg rfl rfl rfl rfl (eqI rfl rfl) ?_
              first | refine dq rfl rfl rfl (pkT (v := .bool _) rfl rfl) ?_ | refine dq rfl rfl rfl (pkF (v := .bool _) rfl rfl) ?_
              refine TD.nil (nt ?_)
              refine TC.condD rfl (fun hc5 => absurd hc5 (e3)) (fun hc5 => ?_)
              refine TC.skip (nb (nt ?_))
              refine TC.region ?_
              refine q rfl rfl (mv (v := .int _ _) rfl) ?_
              first | refine q rfl rfl (addI rfl rfl (by omega) (by omega)) ?_ | refine q rfl rfl (add rfl rfl rfl) ?_
              refine q rfl rfl (asg (v := .int _ _) rfl) ?_
              refine TL.nil (nt ?_)
              exact ⟨rfl, (k + 1), (by omega), (by omega), ⟨rfl, rfl, rfl, rfl, rfl, trivial⟩, (by repeat (first | exact ent_nil _ | refine ent_take 0 rfl ?_ | refine ent_take 1 rfl ?_ | refine ent_take 2 rfl ?_ | refine ent_take 3 rfl ?_ | refine ent_take 4 rfl ?_ | refine ent_take 5 rfl ?_ | refine ent_take 6 rfl ?_ | refine ent_take 7 rfl ?_ | refine ent_take 8 rfl ?_ | refine ent_take 9 rfl ?_ | refine ent_take 10 rfl ?_ | refine ent_take 11 rfl ?_ | refine ent_take 12 rfl ?_))⟩
        · refine TC.exit (et (et (eb (nt ?_))))
          refine TC.seq ?_
          refine TC.region ?_
          refine q rfl rfl (asg (v := .bool _) rfl) ?_
          refine TL.nil (nt ?_)
          refine TC.ret ?_
          exact Ret.i () [_] ⟨rfl, trivial⟩ rfl trivial (by repeat (first | exact ent_nil _ | refine ent_take 0 rfl ?_ | refine ent_take 1 rfl ?_ | refine ent_take 2 rfl ?_ | refine ent_take 3 rfl ?_ | refine ent_take 4 rfl ?_ | refine ent_take 5 rfl ?_ | refine ent_take 6 rfl ?_ | refine ent_take 7 rfl ?_ | refine ent_take 8 rfl ?_ | refine ent_take 9 rfl ?_ | refine ent_take 10 rfl ?_ | refine ent_take 11 rfl ?_ | refine ent_take 12 rfl ?_))

end Go.Proofs.Ytgmniphegombhaa
