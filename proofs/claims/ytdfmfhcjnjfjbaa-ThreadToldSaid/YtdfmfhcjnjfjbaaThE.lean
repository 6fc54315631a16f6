/-
  Proved here: what functions of this program compute, each as a contract over symbolic states, under the premises that each theorem names (most lines printed by a program of the prover).
-/
import Derived.Test.YtdfmfhcjnjfjbaaThD
import Derived.Test.YtdfmfhcjnjfjbaaQLibM
namespace Go.Proofs.Ytdfmfhcjnjfjbaa
open Go Go.QM
open Al (En hasA Nd clrA setA offA dueA restA leftA ids)
open Rd (hasS NdS addS RInv topS runS tickS yieldS rndS)
theorem tick_mem {S : List Rd.Th} (hn : NdS S) (hl : ∀ t ∈ S, 1 ≤ t.left ∧ t.left ≤ t.whole) {t : Rd.Th} (ht : t ∈ tickS S) : ∃ u ∈ S, u.id = t.id ∧ u.prio = t.prio ∧ u.whole = t.whole ∧ 1 ≤ t.left ∧ t.left ≤ t.whole := by
  rw [tickS] at ht
  cases htop : topS S with
  | none => rw [htop] at ht; exact ⟨t, ht, rfl, rfl, rfl, hl t ht⟩
  | some v =>
    rw [htop] at ht
    have hv := (Rd.top_mem htop).1
    have h1 := hl v hv
    dsimp only at ht
    split at ht
    · rcases List.mem_append.1 ht with h | h
      · have := (List.mem_filter.1 h).1
        exact ⟨t, this, rfl, rfl, rfl, hl t this⟩
      · rw [List.mem_singleton.1 h]; exact ⟨v, hv, rfl, rfl, rfl, by dsimp only; omega, Int.le_refl _⟩
    · obtain ⟨u, hu, rfl⟩ := List.mem_map.1 ht
      have h2 := hl u hu
      refine ⟨u, hu, ?_⟩
      split
      · rename_i hne e
        refine ⟨rfl, rfl, rfl, ?_⟩
        dsimp only
        have e2 := Rd.NdS.inj hn hu hv e
        rw [e2]; omega
      · exact ⟨rfl, rfl, rfl, h2⟩
theorem yield_mem {S : List Rd.Th} (hl : ∀ t ∈ S, 1 ≤ t.left ∧ t.left ≤ t.whole) {t : Rd.Th} (ht : t ∈ yieldS S) : ∃ u ∈ S, u.id = t.id ∧ u.prio = t.prio ∧ u.whole = t.whole ∧ 1 ≤ t.left ∧ t.left ≤ t.whole := by
  rw [yieldS] at ht
  cases htop : topS S with
  | none => rw [htop] at ht; exact ⟨t, ht, rfl, rfl, rfl, hl t ht⟩
  | some v =>
    rw [htop] at ht
    have hv := (Rd.top_mem htop).1
    have h1 := hl v hv
    rcases List.mem_append.1 ht with h | h
    · have := (List.mem_filter.1 h).1
      exact ⟨t, this, rfl, rfl, rfl, hl t this⟩
    · rw [List.mem_singleton.1 h]; exact ⟨v, hv, rfl, rfl, rfl, by dsimp only; omega, Int.le_refl _⟩
theorem tick_has (S : List Rd.Th) (x : Int) : hasS (tickS S) x ↔ hasS S x := by
  rw [tickS]
  cases htop : topS S with
  | none => exact Iff.rfl
  | some v =>
    dsimp only
    split
    · exact Rd.rnd_has (Rd.top_mem htop).1 x
    · exact Rd.setL_has S _ _ x
theorem yield_has (S : List Rd.Th) (x : Int) : hasS (yieldS S) x ↔ hasS S x := by
  rw [yieldS]
  cases htop : topS S with
  | none => exact Iff.rfl
  | some v => exact Rd.rnd_has (Rd.top_mem htop).1 x
theorem RInv_yield {S : List Rd.Th} (h : RInv S) : RInv (yieldS S) := by
  rw [yieldS]
  cases htop : topS S with
  | none => exact h
  | some v => exact h.rnd (Rd.top_mem htop).1
theorem TP.queue {T : TS} (h : TP T []) {S' : List Rd.Th} (hR : RInv S') (hm : ∀ t ∈ S', ∃ u ∈ T.S, u.id = t.id ∧ u.prio = t.prio ∧ u.whole = t.whole ∧ 1 ≤ t.left ∧ t.left ≤ t.whole) (hh : ∀ x, hasS S' x ↔ hasS T.S x) : TP { T with S := S' } [] := by
  refine ⟨h.wm, hR, fun t ht => ?_, fun t ht => ?_, fun x => ?_, h.na, h.al, h.off, h.ps, h.tm, h.L1, h.Ln⟩
  · obtain ⟨u, _, _, _, _, h5⟩ := hm t ht; exact h5
  · obtain ⟨u, h1, h2, h3, h4, _⟩ := hm t ht
    have := h.sp u h1
    rw [← h2, ← h3, ← h4]; exact this
  · show hasS S' x ↔ _
    rw [hh]; exact h.rdy x
theorem TP.yield {T : TS} (h : TP T []) : TP (yieldT T) [] := h.queue (RInv_yield h.rj) (fun t ht => yield_mem h.lf ht) (yield_has T.S)
theorem rest_sub (t : Int) (A : List En) : (restA t A).Sublist A := List.filter_sublist
theorem TP.tick1 {T : TS} (h : TP T []) : TP (tickT1 T) [] := by
  have h1 := h.queue (h.rj.tick fun t ht => (h.lf t ht).1) (fun t ht => tick_mem h.rj.nd h.lf ht) (tick_has T.S)
  refine ⟨h1.wm, h1.rj, h1.lf, h1.sp, h1.rdy, h.na.sublist ((rest_sub _ _).map _), fun x hx => ?_, h1.off, h1.ps, fun e he => ?_, h1.L1, h1.Ln⟩
  · obtain ⟨e, he, rfl⟩ := hx
    exact h.al e.id ⟨e, (rest_sub _ _).subset he, rfl⟩
  · have h2 := h.tm e ((rest_sub _ _).subset he)
    have h3 : ¬ e.at_ ≤ T.now + 1 := by simpa using (List.mem_filter.1 he).2
    show T.now + 1 < e.at_ ∧ e.at_ ≤ T.now + 1 + 1048576
    omega
theorem wakeL_TP : ∀ (l : List Int) {T : TS}, TP T [] → TP (wakeL T l) []
  | [], _, h => h
  | x :: l, _, h => wakeL_TP l (h.wake 14 x)
theorem TP.tick {T : TS} (h : TP T []) : TP (tickT T) [] := wakeL_TP _ h.tick1
theorem TP.told {T : TS} (h : TP T []) : TP (toldT T) [] := ⟨h.wm, h.rj, h.lf, h.sp, h.rdy, h.na, h.al, h.off, h.ps, h.tm, h.L1, h.Ln⟩
theorem TP.start {T : TS} (h : TP T []) (id p s : Int) : TP (startS T id p s).1 [] := by
  rw [startS]
  split
  · exact h
  · rename_i h1
    have h1 := Decidable.not_not.1 h1
    split
    · exact h
    · rename_i h2
      split
      · exact h
      · rename_i h3
        have hx : ¬ hasS T.S id := fun h4 => h3 ((h.rdy id).1 h4).1.2.1
        have h0 := h.wm.ge id h1
        have hs : T.m.st id = 0 := Decidable.byContradiction fun h4 => h3 (h.off id h1 h4)
        rw [add_yes h0 (by omega) (by omega) hx]
        refine ⟨h.wm, h.rj.add (t := ⟨id, p, s, s⟩) hx (by dsimp only; omega), fun t ht => ?_, fun t ht => ?_, fun y => ?_, h.na, h.al, fun y hy hst => ?_, fun y hy hon => ?_, h.tm, fun y hy => (List.not_mem_nil hy).elim, List.nodup_nil⟩
        · rcases List.mem_append.1 ht with ht | ht
          · exact h.lf t ht
          · rw [List.mem_singleton.1 ht]; dsimp only; omega
        · show t.prio = updI T.pr id p t.id ∧ t.whole = updI T.sl id s t.id
          rcases List.mem_append.1 ht with ht | ht
          · have hne : t.id ≠ id := fun e => hx ⟨t, ht, e⟩
            rw [updI_ne hne, updI_ne hne]; exact h.sp t ht
          · rw [List.mem_singleton.1 ht]; dsimp only; rw [updI_same, updI_same]; exact ⟨rfl, rfl⟩
        · show hasS (T.S ++ [⟨id, p, s, s⟩]) y ↔ (y ∈ T.m.ids ∧ updI T.on id true y = true ∧ T.m.st y = 0) ∧ y ∉ []
          rw [has_app, h.rdy]
          by_cases e : y = id
          · rw [e, updI_same]
            exact ⟨fun _ => ⟨⟨h1, rfl, hs⟩, List.not_mem_nil⟩, fun _ => .inr rfl⟩
          · rw [updI_ne e]
            exact ⟨fun h4 => h4.resolve_right fun e2 => e e2.symm, .inl⟩
        · show updI T.on id true y = true
          by_cases e : y = id
          · rw [e, updI_same]
          · rw [updI_ne e]; exact h.off y hy hst
        · have hon : updI T.on id true y = true := hon
          show (0 ≤ updI T.pr id p y ∧ updI T.pr id p y ≤ 7) ∧ 1 ≤ updI T.sl id s y ∧ updI T.sl id s y ≤ 16
          by_cases e : y = id
          · rw [e, updI_same, updI_same]; omega
          · rw [updI_ne e] at hon
            rw [updI_ne e, updI_ne e]; exact h.ps y hy hon
theorem TP.stop {T : TS} (h : TP T []) (id : Int) : TP (stopS T id).1 [] := by
  rw [stopS]
  split
  · exact h
  · rename_i h1
    have h1 := Decidable.not_not.1 h1
    split
    · exact h
    · have hc := call_st T.m id h1
      have hm : ∀ y, y ∈ (callS T.m id).1.ids ↔ y ∈ T.m.ids := fun y => by rw [hc.2]
      refine ⟨h.wm.call id, h.rj.sub (Rd.dropS_sub _ _), fun t ht => h.lf t ((Rd.dropS_sub _ _).subset ht), fun t ht => h.sp t ((Rd.dropS_sub _ _).subset ht), fun y => ?_, clr_Nd h.na _, fun y hy => ?_, fun y hy hs => ?_, fun y hy hon => ?_, fun e he => h.tm e (clr_mem he), fun y hy => (List.not_mem_nil hy).elim, List.nodup_nil⟩
      · show hasS (Rd.dropS T.S [id]) y ↔ (y ∈ (callS T.m id).1.ids ∧ updI T.on id false y = true ∧ (callS T.m id).1.st y = 0) ∧ y ∉ []
        rw [drop_has, h.rdy, hm, List.mem_singleton]
        by_cases e : y = id
        · rw [e, updI_same]
          exact ⟨fun h4 => absurd rfl h4.2, fun h4 => by cases h4.1.2.1⟩
        · rw [updI_ne e, call_ne _ _ e]
          exact ⟨fun h4 => h4.1, fun h4 => ⟨h4, e⟩⟩
      · obtain ⟨h4, h5⟩ := clr_has.1 hy
        have h5 : y ≠ id := by simpa using h5
        have h6 := h.al y h4
        exact ⟨(hm y).2 h6.1, .inl (by show (callS T.m id).1.st y ≠ 0; rw [call_ne _ _ h5]; exact h6.2.resolve_right List.not_mem_nil)⟩
      · have hs : (callS T.m id).1.st y ≠ 0 := hs
        have e : y ≠ id := fun e => hs (by rw [e]; exact hc.1)
        show updI T.on id false y = true
        rw [updI_ne e]
        rw [call_ne _ _ e] at hs
        exact h.off y ((hm y).1 hy) hs
      · have hon : updI T.on id false y = true := hon
        have e : y ≠ id := fun e => by rw [e, updI_same] at hon; cases hon
        rw [updI_ne e] at hon
        exact h.ps y ((hm y).1 hy) hon
theorem TP.add {T : TS} (h : TP T []) (id : Int) : TP (addT T id) [] := by
  rw [addT]
  split
  · exact h
  · rename_i hn
    have hx : id ∉ T.m.ids := fun h2 => hn (.inl h2)
    have hj : joinS T.m id = ⟨T.m.ids ++ [id], updI T.m.st id 0, updI T.m.cl id (-1), updI T.m.pn id (-1), updI T.m.row id []⟩ := if_neg hn
    have hW := h.wm.join id
    have hne : ∀ y ∈ T.m.ids, y ≠ id := fun y hy e => hx (e ▸ hy)
    have hm : ∀ y, y ∈ (joinS T.m id).ids ↔ y ∈ T.m.ids ∨ y = id := fun y => by rw [hj]; simp
    have hst : ∀ y, y ≠ id → (joinS T.m id).st y = T.m.st y := fun y hy => by rw [hj]; exact updI_ne hy
    refine ⟨hW, h.rj, h.lf, fun t ht => ?_, fun y => ?_, h.na, fun y hy => ?_, fun y hy hs => ?_, fun y hy hon => ?_, h.tm, fun y hy => (List.not_mem_nil hy).elim, List.nodup_nil⟩
    · have h2 := ((h.rdy t.id).1 ⟨t, ht, rfl⟩).1.1
      show t.prio = updI T.pr id 0 t.id ∧ t.whole = updI T.sl id 0 t.id
      rw [updI_ne (hne _ h2), updI_ne (hne _ h2)]; exact h.sp t ht
    · show hasS T.S y ↔ (y ∈ (joinS T.m id).ids ∧ updI T.on id false y = true ∧ (joinS T.m id).st y = 0) ∧ y ∉ []
      rw [h.rdy, hm]
      by_cases e : y = id
      · rw [e, updI_same]
        exact ⟨fun h4 => absurd h4.1.1 hx, fun h4 => by cases h4.1.2.1⟩
      · rw [updI_ne e, hst y e]
        exact ⟨fun h4 => ⟨⟨.inl h4.1.1, h4.1.2⟩, h4.2⟩, fun h4 => ⟨⟨h4.1.1.resolve_right e, h4.1.2⟩, h4.2⟩⟩
    · have h2 := h.al y hy
      exact ⟨(hm y).2 (.inl h2.1), .inl (by show (joinS T.m id).st y ≠ 0; rw [hst y (hne y h2.1)]; exact h2.2.resolve_right List.not_mem_nil)⟩
    · have hs : (joinS T.m id).st y ≠ 0 := hs
      have e : y ≠ id := fun e => hs (by rw [e, hj]; exact updI_same _ _ _)
      show updI T.on id false y = true
      rw [updI_ne e]
      rw [hst y e] at hs
      exact h.off y (((hm y).1 hy).resolve_right e) hs
    · have hon : updI T.on id false y = true := hon
      have e : y ≠ id := fun e => by rw [e, updI_same] at hon; cases hon
      rw [updI_ne e] at hon
      show (0 ≤ updI T.pr id 0 y ∧ updI T.pr id 0 y ≤ 7) ∧ 1 ≤ updI T.sl id 0 y ∧ updI T.sl id 0 y ≤ 16
      rw [updI_ne e, updI_ne e]
      exact h.ps y (((hm y).1 hy).resolve_right e) hon
theorem TP.adds (l : List Int) : ∀ {T : TS}, TP T [] → TP (addL T l) [] := by
  induction l with
  | nil => exact fun h => h
  | cons x l ih => intro T h; exact ih (h.add x)
theorem TP.zero : TP t0 [] := ⟨WM.zero, Rd.RInv.nil, (fun t h => by cases h), (fun t h => by cases h), fun x => ⟨(fun ⟨t, h, _⟩ => (by cases h)), (fun h => (List.not_mem_nil h.1.1).elim)⟩, List.nodup_nil, (fun x ⟨t, h, _⟩ => by cases h), fun x h => (List.not_mem_nil h).elim, fun x h => (List.not_mem_nil h).elim, (fun e h => by cases h), fun x h => (List.not_mem_nil h).elim, List.nodup_nil⟩
/-- All that holds of threads behind n acts. -/
structure TG (T : TS) (n : Nat) : Prop where
  p : TP T []
  ids : T.m.ids.length ≤ 200
  now : 0 ≤ T.now ∧ T.now ≤ n
  tn : 0 ≤ T.tn ∧ T.tn ≤ n
  told : T.told.length ≤ 200 * n
theorem TG.tb {T : TS} {n : Nat} (h : TG T n) (hn : n ≤ 400000) : TB T := by
  obtain ⟨_, h1, h2, h3, h4⟩ := h
  exact ⟨by omega, by omega, by omega, by omega⟩
theorem TG.tl {T : TS} {n : Nat} (h : TG T n) (hn : n ≤ 400000) : T.told.length ≤ 90000000 := by
  have := h.told; omega
theorem TG.nw {T : TS} {n : Nat} (h : TG T n) (hn : n ≤ 400000) : T.now ≤ 900000000 := by
  have := h.now; omega
theorem TG.up {T : TS} {n m : Nat} (h : TG T n) (hm : n ≤ m) : TG T m := by
  obtain ⟨h0, h1, h2, h3, h4⟩ := h
  exact ⟨h0, h1, by omega, by omega, by omega⟩
theorem TG.next {T : TS} {n : Nat} (h : TG T n) {T' : TS} (hp : TP T' []) (hi : T'.m.ids.length ≤ 200) (h1 : T'.now = T.now ∨ T'.now = T.now + 1) (h2 : T'.tn = T.tn ∨ T'.tn = T.tn + 1) (h3 : T'.told.length ≤ T.told.length + 200) : TG T' (n + 1) := by
  obtain ⟨a0, a1, a2, a3, a4⟩ := h
  exact ⟨hp, hi, by omega, by omega, by omega⟩
theorem tells_f (T : TS) (why : Int) (l : List Int) : (tellS T why l).m = T.m ∧ (tellS T why l).now = T.now ∧ (tellS T why l).tn = T.tn ∧ (tellS T why l).told.length = T.told.length + l.length := by
  obtain ⟨e1, e2, e3, _, _, _, e7⟩ := tell_m why l T
  exact ⟨e1, e2, e3, e7⟩
theorem block_f (T : TS) (id ticks : Int) : (blockS T id ticks).m = T.m ∧ (blockS T id ticks).now = T.now ∧ ((blockS T id ticks).tn = T.tn ∨ (blockS T id ticks).tn = T.tn + 1) ∧ (blockS T id ticks).told = T.told := by
  rw [blockS]
  split
  · refine ⟨rfl, rfl, ?_, rfl⟩
    show (setA T.A T.now T.tn id ticks).2.1 = T.tn ∨ _
    rw [setA]; split
    · exact .inl rfl
    · split
      · exact .inl rfl
      · exact .inr rfl
  · exact ⟨rfl, rfl, .inl rfl, rfl⟩
theorem TG.start {T : TS} {n : Nat} (h : TG T n) (id p s : Int) : TG (startS T id p s).1 (n + 1) := by
  have hp := h.p.start id p s
  refine h.next hp ?_ (.inl ?_) (.inl ?_) ?_ <;> rw [startS] <;> (repeat' split) <;> first | exact h.ids | rfl | exact Nat.le_add_right _ _
theorem TG.stop {T : TS} {n : Nat} (h : TG T n) (id : Int) : TG (stopS T id).1 (n + 1) := by
  have hp := h.p.stop id
  refine h.next hp ?_ (.inl ?_) (.inl ?_) ?_ <;> rw [stopS] <;> (repeat' split) <;> first | exact h.ids | rfl | exact Nat.le_add_right _ _ | (show (callS T.m id).1.ids.length ≤ 200; rw [call_ids]; exact h.ids)
theorem TG.tells1 {T : TS} {n : Nat} (h : TG T n) {m : MS} (hi : m.ids.length ≤ 200) {l : List Int} (hl : l.length ≤ 200) {why : Int} {T' : TS} (e1 : T'.m = m) (e2 : T'.now = T.now) (e3 : T'.tn = T.tn) (e4 : T'.told = T.told) (hp : TP (tellS T' why l) []) : TG (tellS T' why l) (n + 1) := by
  obtain ⟨f1, f2, f3, f4⟩ := tells_f T' why l
  exact h.next hp (by rw [f1, e1]; exact hi) (.inl (by rw [f2, e2])) (.inl (by rw [f3, e3])) (by rw [f4, e4]; omega)
theorem TG.remove {T : TS} {n : Nat} (h : TG T n) (id : Int) : TG (removeS T id).1 (n + 1) := by
  have hp := h.p.remove id
  by_cases hi : id ∈ T.m.ids
  · have hv : removeS T id = (tellS (outS T id) 13 (leaveS T.m id).2.1, 0) := if_neg (fun h2 => h2 hi)
    rw [hv] at hp ⊢
    have hl := (h.p.out hi).lenL
    have hids : (outS T id).m.ids.length ≤ 200 := by
      show (leaveS T.m id).1.ids.length ≤ 200
      rw [leave_ids hi]; exact Nat.le_trans (List.length_filter_le _ _) h.ids
    exact h.tells1 (T' := outS T id) hids (by omega) rfl rfl rfl rfl hp
  · rw [show removeS T id = (T, 6) from if_pos hi]; exact h.up (Nat.le_succ _)
theorem TG.send {T : TS} {n : Nat} (h : TG T n) (fr to gt : Int) (cl : Bool) (ticks : Int) : TG (sendS T fr to gt cl ticks).1 (n + 1) := by
  have hp := h.p.send fr to gt cl ticks
  rw [sendS] at hp ⊢
  split
  · exact h.up (Nat.le_succ _)
  · rename_i h1
    rw [if_neg h1] at hp
    split
    · exact h.up (Nat.le_succ _)
    · rename_i h2
      rw [if_neg h2] at hp
      split
      · exact h.up (Nat.le_succ _)
      · rename_i h3
        rw [if_neg h3] at hp
        obtain ⟨f1, f2, f3, f4⟩ := block_f (mS T (offS T.m to ⟨fr, gt, cl⟩).1) fr ticks
        refine h.next hp ?_ (.inl f2) f3 (by rw [f4]; exact Nat.le_add_right _ _)
        rw [f1]; show (offS T.m to ⟨fr, gt, cl⟩).1.ids.length ≤ 200
        rw [off_ids]; exact h.ids
theorem TG.wait {T : TS} {n : Nat} (h : TG T n) (id ticks : Int) : TG (waitS T id ticks).1 (n + 1) := by
  have hp := h.p.wait id ticks
  rw [waitS] at hp ⊢
  split
  · exact h.up (Nat.le_succ _)
  · rename_i h1
    rw [if_neg h1] at hp
    split
    · exact h.up (Nat.le_succ _)
    · rename_i h2
      rw [if_neg h2] at hp
      split
      · exact h.up (Nat.le_succ _)
      · rename_i h3
        rw [if_neg h3] at hp
        split
        · exact h.up (Nat.le_succ _)
        · rename_i h4
          rw [if_neg h4] at hp
          obtain ⟨f1, f2, f3, f4⟩ := block_f (mS T (openS T.m id).1) id ticks
          refine h.next hp ?_ (.inl f2) f3 (by rw [f4]; exact Nat.le_add_right _ _)
          rw [f1]; show (openS T.m id).1.ids.length ≤ 200
          rw [open_ids]; exact h.ids
theorem wake_f (T : TS) (why id : Int) : (wakeS T why id).1.m.ids = T.m.ids ∧ (wakeS T why id).1.now = T.now ∧ (wakeS T why id).1.tn = T.tn ∧ T.told.length ≤ (wakeS T why id).1.told.length ∧ (wakeS T why id).1.told.length ≤ T.told.length + 1 := by
  rw [wakeS]
  split
  · exact ⟨rfl, rfl, rfl, Nat.le_refl _, Nat.le_add_right _ _⟩
  · split
    · exact ⟨rfl, rfl, rfl, Nat.le_refl _, Nat.le_add_right _ _⟩
    · obtain ⟨f1, f2, f3, f4⟩ := tells_f (mS T (callS T.m id).1) why [id]
      refine ⟨?_, f2, f3, by rw [f4]; exact Nat.le_add_right _ _, by rw [f4]; exact Nat.le_refl _⟩
      rw [f1]; exact call_ids _ _
theorem TG.wake {T : TS} {n : Nat} (h : TG T n) (why id : Int) : TG (wakeS T why id).1 (n + 1) := by
  obtain ⟨f1, f2, f3, _, f4⟩ := wake_f T why id
  exact h.next (h.p.wake why id) (by rw [f1]; exact h.ids) (.inl f2) (.inl f3) (by omega)
theorem wakeL_f : ∀ (l : List Int) (T : TS), (wakeL T l).m.ids = T.m.ids ∧ (wakeL T l).now = T.now ∧ (wakeL T l).tn = T.tn ∧ (wakeL T l).told.length ≤ T.told.length + l.length
  | [], _ => ⟨rfl, rfl, rfl, Nat.le_refl _⟩
  | x :: l, T => by
    obtain ⟨g1, g2, g3, g4⟩ := wakeL_f l (wakeS T 14 x).1
    obtain ⟨f1, f2, f3, _, f4⟩ := wake_f T 14 x
    rw [show wakeL T (x :: l) = wakeL (wakeS T 14 x).1 l from rfl, List.length_cons]
    exact ⟨g1.trans f1, g2.trans f2, g3.trans f3, by omega⟩
theorem wakeL_snoc (T : TS) (l : List Int) {k : Nat} {x : Int} (h : l[k]? = some x) : wakeL T (l.take (k + 1)) = (wakeS (wakeL T (l.take k)) 14 x).1 := by
  rw [List.take_add_one, h, Option.toList, wakeL, List.foldl_append, wakeL]; rfl
theorem due_len (t : Int) (A : List En) : (ids (dueA t A)).length ≤ A.length := by rw [ids, List.length_map]; exact List.length_filter_le _ _
theorem TG.tick {T : TS} {n : Nat} (h : TG T n) : TG (tickT T) (n + 1) := by
  obtain ⟨f1, f2, f3, f4⟩ := wakeL_f (Al.ids (dueA (T.now + 1) T.A)) (tickT1 T)
  have h1 := due_len (T.now + 1) T.A
  have h2 := h.p.lenA
  have h3 := h.ids
  refine h.next h.p.tick (by rw [tickT, f1]; exact h.ids) (.inr f2) (.inl f3) ?_
  have : (tickT1 T).told = T.told := rfl
  rw [tickT]; rw [this] at f4; omega
theorem TG.yield {T : TS} {n : Nat} (h : TG T n) : TG (yieldT T) (n + 1) := h.next h.p.yield h.ids (.inl rfl) (.inl rfl) (Nat.le_add_right _ _)
theorem TG.tolds {T : TS} {n : Nat} (h : TG T n) : TG (toldT T) n := ⟨h.p.told, h.ids, h.now, h.tn, Nat.zero_le _⟩
theorem TG.refuse {T : TS} {n : Nat} (h : TG T n) (id why : Int) : TG (refuseS T id why).1 (n + 1) := by
  have hp := h.p.refuse id why
  rw [refuseS] at hp ⊢
  split
  · exact h.up (Nat.le_succ _)
  · rename_i h1
    rw [if_neg h1] at hp
    split
    · exact h.up (Nat.le_succ _)
    · rename_i o r hr
      rw [hr] at hp
      exact h.tells1 (T' := mS T (callS T.m o.fr).1) (m := (callS T.m o.fr).1) (by rw [call_ids]; exact h.ids) (by simp) rfl rfl rfl rfl hp
theorem TG.answer {T : TS} {n : Nat} (h : TG T n) (id : Int) : TG (answerS T id).1 (n + 1) := by
  have hp := h.p.answer id
  rw [answerS] at hp ⊢
  split
  · exact h.up (Nat.le_succ _)
  · rename_i h1
    rw [if_neg h1] at hp
    split
    · exact h.up (Nat.le_succ _)
    · rename_i h2
      rw [if_neg h2] at hp
      split
      · rename_i h3
        rw [if_pos h3] at hp
        exact h.tells1 (T' := mS T (ansS T.m id).1) (m := (ansS T.m id).1) (by rw [ans_ids]; exact h.ids) (by simp) rfl rfl rfl rfl hp
      · exact h.up (Nat.le_succ _)
theorem TG.close {T : TS} {n : Nat} (h : TG T n) (g : Int) : TG (closeT T g).1 (n + 1) := by
  have hp := h.p.close g
  have h1 := nodup_sub_len (close_nd h.p.wm g) (fun x hx => (gone_in h.p.wm hx).1)
  have h2 := h.ids
  exact h.tells1 (T' := mS T (closeS T.m g).1) (m := (closeS T.m g).1) h.ids (by omega) rfl rfl rfl rfl hp
theorem takeT1_f (T : TS) (o : Off) (el s id : Int) : (takeT1 T o el s id).m = T.m ∧ (takeT1 T o el s id).now = T.now ∧ (takeT1 T o el s id).tn = T.tn ∧ (takeT1 T o el s id).told.length ≤ T.told.length + 3 := by
  have h1 : ∀ (c : Prop) [Decidable c] (T2 : TS) (w x : Int), T2.m = T.m → T2.now = T.now → T2.tn = T.tn → (if c then T2 else tellS T2 w [x]).m = T.m ∧ (if c then T2 else tellS T2 w [x]).now = T.now ∧ (if c then T2 else tellS T2 w [x]).tn = T.tn ∧ (if c then T2 else tellS T2 w [x]).told.length ≤ T2.told.length + 1 := fun c _ T2 w x e1 e2 e3 => by
    obtain ⟨f1, f2, f3, f4⟩ := tells_f T2 w [x]
    split
    · exact ⟨e1, e2, e3, Nat.le_add_right _ _⟩
    · exact ⟨f1.trans e1, f2.trans e2, f3.trans e3, by rw [f4]; exact Nat.le_refl _⟩
  rw [takeT1]
  obtain ⟨a1, a2, a3, a4⟩ := h1 (o.cl = true) T 0 o.fr rfl rfl rfl
  obtain ⟨b1, b2, b3, b4⟩ := h1 (el = -1) _ 13 el a1 a2 a3
  split
  · obtain ⟨f1, f2, f3, f4⟩ := tells_f (if el = -1 then if o.cl = true then T else tellS T 0 [o.fr] else tellS (if o.cl = true then T else tellS T 0 [o.fr]) 13 [el]) 0 [id]
    refine ⟨f1.trans b1, f2.trans b2, f3.trans b3, ?_⟩
    rw [f4, List.length_singleton]; omega
  · exact ⟨b1, b2, b3, by omega⟩
theorem TG.take {T : TS} {n : Nat} (h : TG T n) (id : Int) : TG (takeT T id).1 (n + 1) := by
  have hp := h.p.take id
  rw [takeT] at hp ⊢
  split
  · exact h.up (Nat.le_succ _)
  · rename_i h1
    rw [if_neg h1] at hp
    split
    · exact h.up (Nat.le_succ _)
    · rename_i h2
      rw [if_neg h2] at hp
      split
      · exact h.up (Nat.le_succ _)
      · rename_i h3
        rw [if_neg h3] at hp
        obtain ⟨f1, f2, f3, f4⟩ := takeT1_f (mS T (takeS T.m id).1) (takeS T.m id).2.1 (takeS T.m id).2.2.1 (stT T id) id
        refine h.next hp ?_ (.inl f2) (.inl f3) ?_
        · dsimp only; rw [f1]; show (takeS T.m id).1.ids.length ≤ 200
          rw [take_ids]; exact h.ids
        · have : (mS T (takeS T.m id).1).told = T.told := rfl
          rw [this] at f4; dsimp only; omega
theorem addL_f : ∀ (l : List Int) (T : TS), (addL T l).now = T.now ∧ (addL T l).tn = T.tn ∧ (addL T l).told = T.told
  | [], _ => ⟨rfl, rfl, rfl⟩
  | x :: l, T => by
    obtain ⟨h1, h2, h3⟩ := addL_f l (addT T x)
    have e : (addT T x).now = T.now ∧ (addT T x).tn = T.tn ∧ (addT T x).told = T.told := by rw [addT]; split <;> exact ⟨rfl, rfl, rfl⟩
    exact ⟨h1.trans e.1, h2.trans e.2.1, h3.trans e.2.2⟩
theorem TG.adds {T : TS} {n : Nat} (h : TG T n) (l : List Int) (hl : T.m.ids.length + l.length ≤ 200) : TG (addL T l) n := by
  obtain ⟨h1, h2, h3⟩ := addL_f l T
  have h4 := (addL_len l T).2
  exact ⟨h.p.adds l, by omega, by rw [h1]; exact h.now, by rw [h2]; exact h.tn, by rw [h3]; exact h.told⟩
theorem TG.zero : TG t0 0 := ⟨TP.zero, Nat.zero_le _, ⟨Int.le_refl _, Int.le_refl _⟩, ⟨Int.le_refl _, Int.le_refl _⟩, Nat.zero_le _⟩
/-- For tells, one behind the other. -/
structure TZ (T : TS) (n : Nat) : Prop where
  ids : T.m.ids.length ≤ 1000
  now : 0 ≤ T.now ∧ T.now ≤ 1000000000
  tn : 0 ≤ T.tn ∧ T.tn ≤ 1000000000
  told : T.told.length ≤ 90000000 + n
  S : T.S.length ≤ 1000 + n
  A : T.A.length ≤ 1000
theorem TZ.tb {T : TS} {n : Nat} (h : TZ T n) (hn : n ≤ 1000) : TB T := ⟨h.ids, h.now, h.tn, by have := h.told; omega⟩
theorem TZ.tell {T : TS} {n : Nat} (h : TZ T n) (why x : Int) : TZ (tellS T why [x]) (n + 1) := by
  obtain ⟨f1, f2, f3, f4⟩ := tells_f T why [x]
  obtain ⟨g1, g2⟩ := tell_len why [x] T
  have h1 := h.told; have h2 := h.S; have h3 := h.A
  simp only [List.length_singleton] at f4 g1
  exact ⟨by rw [f1]; exact h.ids, by rw [f2]; exact h.now, by rw [f3]; exact h.tn, by omega, by omega, by omega⟩
theorem take_err {s : MS} {id : Int} (h : (takeS s id).2.2.2 ≠ 0) : (takeS s id).1 = s := by
  rw [takeS] at h ⊢
  split at h
  · rename_i h1; rw [if_pos h1]
  · rename_i h1
    rw [if_neg h1]
    split at h
    · rename_i h2; rw [if_pos h2]
    · rename_i h2
      rw [if_neg h2]
      split at h
      · rfl
      · split at h
        · exact absurd rfl h
        · exact absurd rfl h

set_option maxRecDepth 4000 in
set_option maxHeartbeats 2000000 in
theorem ttake_ok (b : Nat) (T : TS) (hP : TP T []) (hb : TB T) (id : Int) (hto : T.told.length ≤ 90000000) : FSpec Try.prog 16 [.pointer (some ⟨b, 0, none⟩), .int .i64 id] noRd [isT b T] (fun _ : Unit => .tuple #[.agg (ofC (takeT T id).2.1).toArray, .int .i64 (takeT T id).2.2]) (fun _ => True) (fun _ => [isT b (takeT T id).1]) := by
  refine FSpec.intro (rs := [.cell 4 32, .tmp 5]) (by kernel_rfl) Try.func16 rfl Try.ntmps16 (by rfl) rfl ?_
  intro F _
  change TC _ _ _ _ _ _ _ (sepL [_, _])
  obtain ⟨hSl, hAl, _, hil⟩ := hP.bds hb
  have hW := hP.wm
  have hnow := hb.now
  have htn := hb.tn
  have htold := hb.told
  refine TC.seq ?_
  refine TC.region ?_
  refine e rfl ?_
  refine al (l := [.int _ _, .int _ _, .bool _]) rfl rfl ?_
  intro b1
  refine q rfl rfl (asg (v := .int _ _) rfl) ?_
  refine TL.nil (nt ?_)
  refine TC.seq ?_
  refine TC.region ?_
  refine q rfl rfl (mv (v := .pointer _) rfl) ?_
  refine q rfl rfl (mv (v := .int _ _) rfl) ?_
  by_cases h1 : id ∈ T.m.ids
  · refine e rfl ?_
    refine cl (tatc_yes b T id h1) rfl PkL.p trivial ?_
    intro y0 _
    change TL _ _ _ _ _ _ _ _ (sepL [_, _, _])
    have hh : ¬ id ∉ T.m.ids := fun h => h h1
    refine q rfl rfl (mv (v := .tuple _) rfl) ?_
    refine q rfl rfl (pu (v := .pointer _) (fun _ => rfl)) ?_
    refine q rfl rfl (pu (v := .int _ _) (fun _ => rfl)) ?_
    refine q rfl rfl (asg (v := .pointer _) rfl) ?_
    refine q rfl rfl (asg (v := .int _ _) rfl) ?_
    refine TL.nil (nt ?_)
    refine TC.seq ?_
    refine TC.region ?_
    refine q rfl rfl (mv (v := .pointer _) rfl) ?_
    refine q rfl rfl (mv (v := .int _ _) rfl) ?_
    refine e rfl ?_
    refine cl (tstate_ok b T id) rfl PkL.p trivial ?_
    intro _ _
    change TL _ _ _ _ _ _ _ _ (sepL [_, _, _])
    refine q rfl rfl (asg (v := .int _ _) rfl) ?_
    refine TL.nil (nt ?_)
    refine TC.seq ?_
    refine TC.block ?_
    refine TC.seq ?_
    refine TC.region ?_
    refine q rfl rfl (mv (v := .int _ _) rfl) ?_
    refine q rfl rfl (neI rfl rfl) ?_
    refine q rfl rfl (asg (v := .bool _) rfl) ?_
    refine TL.nil (nt ?_)
    refine TC.condF rfl ?_
    refine TC.seq ?_
    refine TC.region ?_
    refine q rfl rfl (mv (v := .int _ _) rfl) ?_
    refine q rfl rfl (neI rfl rfl) ?_
    refine q rfl rfl (mv (v := .bool _) rfl) ?_
    refine TL.split 28 rfl (fun hs0 => ?_) (fun hs0 => ?_)
    · have hs0 := of_decide_eq_true hs0
      refine qg rfl rfl rfl (mv (v := .int _ _) rfl) ?_
      refine qg rfl rfl rfl (neI rfl rfl) ?_
      first | refine q rfl rfl (pkT (v := .bool _) rfl rfl) ?_ | refine q rfl rfl (pkF (v := .bool _) rfl rfl) ?_
      refine q rfl rfl (asg (v := .bool _) rfl) ?_
      refine TL.nil (nt ?_)
      first | refine TC.condD rfl (fun hs2 => ?_) (fun hs2 => ?_) | refine TC.cond rfl (fun hs2 => ?_) (fun hs2 => ?_)
      · have hv : takeT T id = (T, o0, 12) := by rw [takeT, if_neg hh, if_pos ⟨hs0, hs2⟩]
        rw [hv]
        refine TC.seq ?_
        refine TC.region ?_
        first | refine q rfl rfl (bld (cs := [.int _ _, .int _ _, .bool _]) rfl) ?_ | refine q rfl rfl (bld (cs := [_, _, _]) rfl) ?_
        refine e0 ?_
        refine st (v := .agg #[_, _, _]) (vs := [_, _, _]) 3 rfl rfl rfl rfl rfl rfl (Nat.le_of_ble_eq_true rfl) rfl ?_
        refine q rfl rfl (asg (v := .int _ _) rfl) ?_
        refine TL.nil (nt ?_)
        refine TC.ret (rb (rt ?_))
        exact Ret.i () [_, _] ⟨(rcN (n := 3) rfl rfl rfl rfl), rfl, trivial⟩ rfl trivial (by repeat (first | exact ent_nil _ | refine ent_take 0 rfl ?_ | refine ent_take 1 rfl ?_ | refine ent_take 2 rfl ?_ | refine ent_take 3 rfl ?_ | refine ent_take 4 rfl ?_ | refine ent_take 5 rfl ?_ | refine ent_take 6 rfl ?_ | refine ent_take 7 rfl ?_ | refine ent_take 8 rfl ?_ | refine ent_take 9 rfl ?_ | refine ent_take 10 rfl ?_ | refine ent_take 11 rfl ?_ | refine ent_take 12 rfl ?_))
      · have hs3 : ¬ (stT T id ≠ 0 ∧ stT T id ≠ 2) := fun h => hs2 h.2
        refine TC.skip (nb (nt ?_))
        refine TC.seq ?_
        refine TC.open 0 rfl (fun x0 hx0 => ?_)
        obtain ⟨qb, a, pb, tb, B, M, ad, cap⟩ := x0
        have hN := hx0
        change TC _ _ _ _ _ _ _ (sepL [_, _, _, _, _, _, _, _, _])
        dsimp only at hN ⊢
        refine TC.region ?_
        refine q rfl rfl (mv (v := .pointer _) rfl) ?_
        first | refine q rfl rfl (nc rfl) ?_ | refine q rfl rfl (ncF rfl) ?_ | refine q rfl rfl (ncS rfl (by first | assumption | (simp [ints_length] <;> omega))) ?_
        first | refine q rfl rfl (fa 2 rfl rfl) ?_ | refine q rfl rfl (faS 2 rfl rfl (by first | assumption | (simp [ints_length] <;> omega))) ?_
        first | refine q rfl rfl (ld rfl rfl rfl) ?_ | refine q rfl rfl (ldS rfl rfl rfl) ?_
        refine q rfl rfl (mv (v := .int _ _) rfl) ?_
        refine e rfl ?_
        refine cl (mtake_ok pb M T.m hW id) rfl PkL.p trivial ?_
        intro _ _
        change TL _ _ _ _ _ _ _ _ (sepL [_, _, _, _, _, _, _, _, _])
        refine q rfl rfl (mv (v := .tuple _) rfl) ?_
        refine q rfl rfl (pu (v := .agg #[_, _, _]) (fun _ => rfl)) ?_
        refine q rfl rfl (pu (v := .int _ _) (fun _ => rfl)) ?_
        refine q rfl rfl (pu (v := .int _ _) (fun _ => rfl)) ?_
        refine e rfl ?_
        refine al (l := [.int _ _, .int _ _, .bool _]) rfl rfl ?_
        intro b2
        refine e0 ?_
        refine st (v := .agg #[_, _, _]) (vs := [_, _, _]) 3 rfl rfl rfl rfl rfl rfl (Nat.le_of_ble_eq_true rfl) rfl ?_
        refine q rfl rfl (asg (v := .int _ _) rfl) ?_
        refine q rfl rfl (asg (v := .int _ _) rfl) ?_
        refine TL.nil (nt ?_)
        refine TC.seq ?_
        refine TC.seq ?_
        refine TC.region ?_
        refine q rfl rfl (mv (v := .int _ _) rfl) ?_
        refine q rfl rfl (neI rfl rfl) ?_
        refine TL.nil (nt ?_)
        first | refine TC.condD rfl (fun he => ?_) (fun he => ?_) | refine TC.cond rfl (fun he => ?_) (fun he => ?_)
        · have ho := take_err he
          have hv : takeT T id = (T, o0, (takeS T.m id).2.2.2) := by rw [takeT, if_neg hh, if_neg hs3, if_pos he]
          rw [hv, ho]
          refine TC.seq ?_
          refine TC.region ?_
          first | refine q rfl rfl (bld (cs := [.int _ _, .int _ _, .bool _]) rfl) ?_ | refine q rfl rfl (bld (cs := [_, _, _]) rfl) ?_
          refine q rfl rfl (mv (v := .int _ _) rfl) ?_
          refine e0 ?_
          refine st (v := .agg #[_, _, _]) (vs := [_, _, _]) 3 rfl rfl rfl rfl rfl rfl (Nat.le_of_ble_eq_true rfl) rfl ?_
          refine q rfl rfl (asg (v := .int _ _) rfl) ?_
          refine TL.nil (nt ?_)
          refine TC.ret (rt ?_)
          exact Ret.i () [_, _] ⟨(rcN (n := 3) rfl rfl rfl rfl), rfl, trivial⟩ rfl trivial (ent_close (⟨qb, a, pb, tb, B, M, ad, cap⟩ : TRep) hN (by repeat (first | exact ent_nil _ | refine ent_take 0 rfl ?_ | refine ent_take 1 rfl ?_ | refine ent_take 2 rfl ?_ | refine ent_take 3 rfl ?_ | refine ent_take 4 rfl ?_ | refine ent_take 5 rfl ?_ | refine ent_take 6 rfl ?_ | refine ent_take 7 rfl ?_ | refine ent_take 8 rfl ?_ | refine ent_take 9 rfl ?_ | refine ent_take 10 rfl ?_ | refine ent_take 11 rfl ?_ | refine ent_take 12 rfl ?_)))
        · have he := Decidable.not_not.1 he
          have hv : takeT T id = (takeT1 (mS T (takeS T.m id).1) (takeS T.m id).2.1 (takeS T.m id).2.2.1 (stT T id) id, (takeS T.m id).2.1, 0) := by rw [takeT, if_neg hh, if_neg hs3, if_neg (fun h => h he)]
          rw [hv]
          dsimp only
          obtain ⟨o, r9, hr, ho, f1, f2, f3, f4, f5⟩ := take_form hW h1 he
          have hel : (takeS T.m id).2.2.1 ≠ -1 → (takeS T.m id).2.2.1 ∈ T.m.ids := fun hne => by
            rcases f5 with ⟨_, e, _⟩ | ⟨_, e, _, g, _⟩
            · exact absurd e hne
            · rw [e] at hne ⊢; exact (g hne).1
          have hcl0 : o.cl = false → (takeS T.m id).2.2.1 = -1 := fun hc => by
            rcases f5 with ⟨_, e, _⟩ | ⟨e, _⟩
            · exact e
            · rw [hc] at e; cases e
          rw [ho]
          clear hv he f5 ho hr
          generalize (takeS T.m id).2.2.1 = el at hel hcl0 ⊢
          refine TC.skip (nt ?_)
          refine TC.seq ?_
          refine TC.seq ?_
          have hi9 := take_ids T.m id
          generalize (takeS T.m id).1 = m9 at hi9 ⊢
          rw [← hi9] at hN
          rw [← hi9]
          refine TC.weak (B := sepL [isT b (mS T m9), pts b2 32 (ofC o), pts b1 32 (ofC o0), F]) ((ent_close (⟨qb, a, pb, tb, B, M, ad, cap⟩ : TRep) hN (by repeat (first | exact ent_nil _ | refine ent_take 0 rfl ?_ | refine ent_take 1 rfl ?_ | refine ent_take 2 rfl ?_ | refine ent_take 3 rfl ?_ | refine ent_take 4 rfl ?_ | refine ent_take 5 rfl ?_ | refine ent_take 6 rfl ?_ | refine ent_take 7 rfl ?_ | refine ent_take 8 rfl ?_ | refine ent_take 9 rfl ?_ | refine ent_take 10 rfl ?_ | refine ent_take 11 rfl ?_ | refine ent_take 12 rfl ?_)))) ?_
          have hZ : TZ (mS T m9) 0 := ⟨by show m9.ids.length ≤ 1000; rw [hi9]; exact hil, hnow, htn, hto, hSl, hAl⟩
          have hmi : ∀ (W : TS) (w y : Int), W.m.ids = T.m.ids → (tellS W w [y]).m.ids = T.m.ids := fun W w y e => by rw [(tells_f W w [y]).1, e]
          have hm9 : (mS T m9).m.ids = T.m.ids := hi9
          refine TC.region ?_
          first | refine q rfl rfl (fa 2 rfl rfl) ?_ | refine q rfl rfl (faS 2 rfl rfl (by first | assumption | (simp [ints_length] <;> omega))) ?_
          first | refine q rfl rfl (ld rfl rfl rfl) ?_ | refine q rfl rfl (ldS rfl rfl rfl) ?_
          first | refine q rfl rfl (notD rfl) ?_ | refine q rfl rfl (notB rfl) ?_
          refine TL.nil (nt ?_)
          cases hc : o.cl with
          | true => ?_
          | false => ?_
          · refine TC.condF rfl ?_
            refine TC.skip (nt ?_)
            refine TC.seq ?_
            refine TC.seq ?_
            refine TC.region ?_
            refine q rfl rfl (mv (v := .int _ _) rfl) ?_
            refine q rfl rfl (neI rfl rfl) ?_
            refine TL.nil (nt ?_)
            rcases Decidable.em (el = -1) with hl | hl
            · subst hl
              refine TC.condF rfl ?_
              refine TC.skip (nt ?_)
              refine TC.seq ?_
              refine TC.seq ?_
              refine TC.region ?_
              refine q rfl rfl (mv (v := .int _ _) rfl) ?_
              refine q rfl rfl (eqI rfl rfl) ?_
              refine TL.nil (nt ?_)
              first | refine TC.condD rfl (fun hs9 => ?_) (fun hs9 => ?_) | refine TC.cond rfl (fun hs9 => ?_) (fun hs9 => ?_)
              · have hv : takeT1 (mS T m9) o (-1) (stT T id) id = tellS (mS T m9) 0 [id] := by rw [takeT1, if_pos hc, if_pos (show (-1 : Int) = -1 from rfl), if_pos hs9]
                rw [hv]
                refine TC.region ?_
                refine q rfl rfl (mv (v := .pointer _) rfl) ?_
                refine q rfl rfl (mv (v := .int _ _) rfl) ?_
                refine e rfl ?_
                refine bs (cs := [.int _ _]) rfl ?_
                intro b3
                refine e rfl ?_
                refine cl (ttell_ok b (mS T m9) (TZ.tb (n := 0) hZ (by decide)) (0) (some ⟨b3, 0, none⟩) _ [id] (fun x hx => by rw [List.mem_singleton.1 hx, hm9]; exact h1) (by have := (TZ.S hZ); simp <;> omega) (by have := (TZ.A hZ); omega)) rfl PkL.p ⟨_, RdSI.rd (ad := some ⟨b3, 0, none⟩)⟩ ?_
                intro _ _
                change TL _ _ _ _ _ _ _ _ (sepL [_, _, _, _, _])
                refine TL.nil (nt ?_)
                refine TC.seq ?_
                refine TC.region ?_
                first | refine q rfl rfl (ldN (vs := [_, _, _]) 3 rfl rfl rfl rfl) ?_ | refine q rfl rfl (ldSN (vs := [_, _, _]) 3 rfl rfl rfl rfl (by decide)) ?_
                refine e0 ?_
                refine st (v := .agg #[_, _, _]) (vs := [_, _, _]) 3 rfl rfl rfl rfl rfl rfl (Nat.le_of_ble_eq_true rfl) rfl ?_
                refine q rfl rfl (asg (v := .int _ _) rfl) ?_
                refine TL.nil (nt ?_)
                refine TC.ret ?_
                exact Ret.i () [_, _] ⟨(rcN (n := 3) rfl rfl rfl rfl), rfl, trivial⟩ rfl trivial (by repeat (first | exact ent_nil _ | refine ent_take 0 rfl ?_ | refine ent_take 1 rfl ?_ | refine ent_take 2 rfl ?_ | refine ent_take 3 rfl ?_ | refine ent_take 4 rfl ?_ | refine ent_take 5 rfl ?_ | refine ent_take 6 rfl ?_ | refine ent_take 7 rfl ?_ | refine ent_take 8 rfl ?_ | refine ent_take 9 rfl ?_ | refine ent_take 10 rfl ?_ | refine ent_take 11 rfl ?_ | refine ent_take 12 rfl ?_))
              · have hv : takeT1 (mS T m9) o (-1) (stT T id) id = (mS T m9) := by rw [takeT1, if_pos hc, if_pos (show (-1 : Int) = -1 from rfl), if_neg hs9]
                rw [hv]
                refine TC.skip (nt ?_)
                refine TC.seq ?_
                refine TC.region ?_
                first | refine q rfl rfl (ldN (vs := [_, _, _]) 3 rfl rfl rfl rfl) ?_ | refine q rfl rfl (ldSN (vs := [_, _, _]) 3 rfl rfl rfl rfl (by decide)) ?_
                refine e0 ?_
                refine st (v := .agg #[_, _, _]) (vs := [_, _, _]) 3 rfl rfl rfl rfl rfl rfl (Nat.le_of_ble_eq_true rfl) rfl ?_
                refine q rfl rfl (asg (v := .int _ _) rfl) ?_
                refine TL.nil (nt ?_)
                refine TC.ret ?_
                exact Ret.i () [_, _] ⟨(rcN (n := 3) rfl rfl rfl rfl), rfl, trivial⟩ rfl trivial (by repeat (first | exact ent_nil _ | refine ent_take 0 rfl ?_ | refine ent_take 1 rfl ?_ | refine ent_take 2 rfl ?_ | refine ent_take 3 rfl ?_ | refine ent_take 4 rfl ?_ | refine ent_take 5 rfl ?_ | refine ent_take 6 rfl ?_ | refine ent_take 7 rfl ?_ | refine ent_take 8 rfl ?_ | refine ent_take 9 rfl ?_ | refine ent_take 10 rfl ?_ | refine ent_take 11 rfl ?_ | refine ent_take 12 rfl ?_))
            · refine TC.condD rfl (fun hc1 => ?_) (fun hc1 => absurd (hl) hc1)
              refine TC.region ?_
              refine q rfl rfl (mv (v := .pointer _) rfl) ?_
              refine q rfl rfl (mv (v := .int _ _) rfl) ?_
              refine e rfl ?_
              refine bs (cs := [.int _ _]) rfl ?_
              intro b4
              refine e rfl ?_
              refine cl (ttell_ok b (mS T m9) (TZ.tb (n := 0) hZ (by decide)) (13) (some ⟨b4, 0, none⟩) _ [el] (fun x hx => by rw [List.mem_singleton.1 hx, hm9]; exact (hel hl)) (by have := (TZ.S hZ); simp <;> omega) (by have := (TZ.A hZ); omega)) rfl PkL.p ⟨_, RdSI.rd (ad := some ⟨b4, 0, none⟩)⟩ ?_
              intro _ _
              change TL _ _ _ _ _ _ _ _ (sepL [_, _, _, _, _])
              refine TL.nil (nt ?_)
              refine TC.seq ?_
              refine TC.seq ?_
              refine TC.region ?_
              refine q rfl rfl (mv (v := .int _ _) rfl) ?_
              refine q rfl rfl (eqI rfl rfl) ?_
              refine TL.nil (nt ?_)
              first | refine TC.condD rfl (fun hs9 => ?_) (fun hs9 => ?_) | refine TC.cond rfl (fun hs9 => ?_) (fun hs9 => ?_)
              · have hv : takeT1 (mS T m9) o el (stT T id) id = tellS (tellS (mS T m9) 13 [el]) 0 [id] := by rw [takeT1, if_pos hc, if_neg hl, if_pos hs9]
                rw [hv]
                refine TC.region ?_
                refine q rfl rfl (mv (v := .pointer _) rfl) ?_
                refine q rfl rfl (mv (v := .int _ _) rfl) ?_
                refine e rfl ?_
                refine bs (cs := [.int _ _]) rfl ?_
                intro b5
                refine e rfl ?_
                refine cl (ttell_ok b (tellS (mS T m9) 13 [el]) (TZ.tb (n := 1) (TZ.tell hZ 13 el) (by decide)) (0) (some ⟨b5, 0, none⟩) _ [id] (fun x hx => by rw [List.mem_singleton.1 hx, (hmi (mS T m9) 13 el hm9)]; exact h1) (by have := (TZ.S (TZ.tell hZ 13 el)); simp <;> omega) (by have := (TZ.A (TZ.tell hZ 13 el)); omega)) rfl PkL.p ⟨_, RdSI.rd (ad := some ⟨b5, 0, none⟩)⟩ ?_
                intro _ _
                change TL _ _ _ _ _ _ _ _ (sepL [_, _, _, _, _, _])
                refine TL.nil (nt ?_)
                refine TC.seq ?_
                refine TC.region ?_
                first | refine q rfl rfl (ldN (vs := [_, _, _]) 3 rfl rfl rfl rfl) ?_ | refine q rfl rfl (ldSN (vs := [_, _, _]) 3 rfl rfl rfl rfl (by decide)) ?_
                refine e0 ?_
                refine st (v := .agg #[_, _, _]) (vs := [_, _, _]) 3 rfl rfl rfl rfl rfl rfl (Nat.le_of_ble_eq_true rfl) rfl ?_
                refine q rfl rfl (asg (v := .int _ _) rfl) ?_
                refine TL.nil (nt ?_)
                refine TC.ret ?_
                exact Ret.i () [_, _] ⟨(rcN (n := 3) rfl rfl rfl rfl), rfl, trivial⟩ rfl trivial (by repeat (first | exact ent_nil _ | refine ent_take 0 rfl ?_ | refine ent_take 1 rfl ?_ | refine ent_take 2 rfl ?_ | refine ent_take 3 rfl ?_ | refine ent_take 4 rfl ?_ | refine ent_take 5 rfl ?_ | refine ent_take 6 rfl ?_ | refine ent_take 7 rfl ?_ | refine ent_take 8 rfl ?_ | refine ent_take 9 rfl ?_ | refine ent_take 10 rfl ?_ | refine ent_take 11 rfl ?_ | refine ent_take 12 rfl ?_))
              · have hv : takeT1 (mS T m9) o el (stT T id) id = (tellS (mS T m9) 13 [el]) := by rw [takeT1, if_pos hc, if_neg hl, if_neg hs9]
                rw [hv]
                refine TC.skip (nt ?_)
                refine TC.seq ?_
                refine TC.region ?_
                first | refine q rfl rfl (ldN (vs := [_, _, _]) 3 rfl rfl rfl rfl) ?_ | refine q rfl rfl (ldSN (vs := [_, _, _]) 3 rfl rfl rfl rfl (by decide)) ?_
                refine e0 ?_
                refine st (v := .agg #[_, _, _]) (vs := [_, _, _]) 3 rfl rfl rfl rfl rfl rfl (Nat.le_of_ble_eq_true rfl) rfl ?_
                refine q rfl rfl (asg (v := .int _ _) rfl) ?_
                refine TL.nil (nt ?_)
                refine TC.ret ?_
                exact Ret.i () [_, _] ⟨(rcN (n := 3) rfl rfl rfl rfl), rfl, trivial⟩ rfl trivial (by repeat (first | exact ent_nil _ | refine ent_take 0 rfl ?_ | refine ent_take 1 rfl ?_ | refine ent_take 2 rfl ?_ | refine ent_take 3 rfl ?_ | refine ent_take 4 rfl ?_ | refine ent_take 5 rfl ?_ | refine ent_take 6 rfl ?_ | refine ent_take 7 rfl ?_ | refine ent_take 8 rfl ?_ | refine ent_take 9 rfl ?_ | refine ent_take 10 rfl ?_ | refine ent_take 11 rfl ?_ | refine ent_take 12 rfl ?_))
          · obtain rfl := hcl0 hc
            refine TC.condT rfl ?_
            refine TC.region ?_
            refine q rfl rfl (mv (v := .pointer _) rfl) ?_
            first | refine q rfl rfl (fa 0 rfl rfl) ?_ | refine q rfl rfl (faS 0 rfl rfl (by first | assumption | (simp [ints_length] <;> omega))) ?_
            first | refine q rfl rfl (ld rfl rfl rfl) ?_ | refine q rfl rfl (ldS rfl rfl rfl) ?_
            refine e rfl ?_
            refine bs (cs := [.int _ _]) rfl ?_
            intro b6
            refine e rfl ?_
            refine cl (ttell_ok b (mS T m9) (TZ.tb (n := 0) hZ (by decide)) (0) (some ⟨b6, 0, none⟩) _ [o.fr] (fun x hx => by rw [List.mem_singleton.1 hx, hm9]; exact f1) (by have := (TZ.S hZ); simp <;> omega) (by have := (TZ.A hZ); omega)) rfl PkL.p ⟨_, RdSI.rd (ad := some ⟨b6, 0, none⟩)⟩ ?_
            intro _ _
            change TL _ _ _ _ _ _ _ _ (sepL [_, _, _, _, _])
            refine TL.nil (nt ?_)
            refine TC.seq ?_
            refine TC.seq ?_
            refine TC.region ?_
            refine q rfl rfl (mv (v := .int _ _) rfl) ?_
            refine q rfl rfl (neI rfl rfl) ?_
            refine TL.nil (nt ?_)
            refine TC.condF rfl ?_
            refine TC.skip (nt ?_)
            refine TC.seq ?_
            refine TC.seq ?_
            refine TC.region ?_
            refine q rfl rfl (mv (v := .int _ _) rfl) ?_
            refine q rfl rfl (eqI rfl rfl) ?_
            refine TL.nil (nt ?_)
            first | refine TC.condD rfl (fun hs9 => ?_) (fun hs9 => ?_) | refine TC.cond rfl (fun hs9 => ?_) (fun hs9 => ?_)
            · have hv : takeT1 (mS T m9) o (-1) (stT T id) id = tellS (tellS (mS T m9) 0 [o.fr]) 0 [id] := by rw [takeT1, if_neg (show ¬ (o.cl = true) by rw [hc]; decide), if_pos (show (-1 : Int) = -1 from rfl), if_pos hs9]
              rw [hv]
              refine TC.region ?_
              refine q rfl rfl (mv (v := .pointer _) rfl) ?_
              refine q rfl rfl (mv (v := .int _ _) rfl) ?_
              refine e rfl ?_
              refine bs (cs := [.int _ _]) rfl ?_
              intro b7
              refine e rfl ?_
              refine cl (ttell_ok b (tellS (mS T m9) 0 [o.fr]) (TZ.tb (n := 1) (TZ.tell hZ 0 o.fr) (by decide)) (0) (some ⟨b7, 0, none⟩) _ [id] (fun x hx => by rw [List.mem_singleton.1 hx, (hmi (mS T m9) 0 o.fr hm9)]; exact h1) (by have := (TZ.S (TZ.tell hZ 0 o.fr)); simp <;> omega) (by have := (TZ.A (TZ.tell hZ 0 o.fr)); omega)) rfl PkL.p ⟨_, RdSI.rd (ad := some ⟨b7, 0, none⟩)⟩ ?_
              intro _ _
              change TL _ _ _ _ _ _ _ _ (sepL [_, _, _, _, _, _])
              refine TL.nil (nt ?_)
              refine TC.seq ?_
              refine TC.region ?_
              first | refine q rfl rfl (ldN (vs := [_, _, _]) 3 rfl rfl rfl rfl) ?_ | refine q rfl rfl (ldSN (vs := [_, _, _]) 3 rfl rfl rfl rfl (by decide)) ?_
              refine e0 ?_
              refine st (v := .agg #[_, _, _]) (vs := [_, _, _]) 3 rfl rfl rfl rfl rfl rfl (Nat.le_of_ble_eq_true rfl) rfl ?_
              refine q rfl rfl (asg (v := .int _ _) rfl) ?_
              refine TL.nil (nt ?_)
              refine TC.ret ?_
              exact Ret.i () [_, _] ⟨(rcN (n := 3) rfl rfl rfl rfl), rfl, trivial⟩ rfl trivial (by repeat (first | exact ent_nil _ | refine ent_take 0 rfl ?_ | refine ent_take 1 rfl ?_ | refine ent_take 2 rfl ?_ | refine ent_take 3 rfl ?_ | refine ent_take 4 rfl ?_ | refine ent_take 5 rfl ?_ | refine ent_take 6 rfl ?_ | refine ent_take 7 rfl ?_ | refine ent_take 8 rfl ?_ | refine ent_take 9 rfl ?_ | refine ent_take 10 rfl ?_ | refine ent_take 11 rfl ?_ | refine ent_take 12 rfl ?_))
            · have hv : takeT1 (mS T m9) o (-1) (stT T id) id = (tellS (mS T m9) 0 [o.fr]) := by rw [takeT1, if_neg (show ¬ (o.cl = true) by rw [hc]; decide), if_pos (show (-1 : Int) = -1 from rfl), if_neg hs9]
              rw [hv]
              refine TC.skip (nt ?_)
              refine TC.seq ?_
              refine TC.region ?_
              first | refine q rfl rfl (ldN (vs := [_, _, _]) 3 rfl rfl rfl rfl) ?_ | refine q rfl rfl (ldSN (vs := [_, _, _]) 3 rfl rfl rfl rfl (by decide)) ?_
              refine e0 ?_
              refine st (v := .agg #[_, _, _]) (vs := [_, _, _]) 3 rfl rfl rfl rfl rfl rfl (Nat.le_of_ble_eq_true rfl) rfl ?_
              refine q rfl rfl (asg (v := .int _ _) rfl) ?_
              refine TL.nil (nt ?_)
              refine TC.ret ?_
              exact Ret.i () [_, _] ⟨(rcN (n := 3) rfl rfl rfl rfl), rfl, trivial⟩ rfl trivial (by repeat (first | exact ent_nil _ | refine ent_take 0 rfl ?_ | refine ent_take 1 rfl ?_ | refine ent_take 2 rfl ?_ | refine ent_take 3 rfl ?_ | refine ent_take 4 rfl ?_ | refine ent_take 5 rfl ?_ | refine ent_take 6 rfl ?_ | refine ent_take 7 rfl ?_ | refine ent_take 8 rfl ?_ | refine ent_take 9 rfl ?_ | refine ent_take 10 rfl ?_ | refine ent_take 11 rfl ?_ | refine ent_take 12 rfl ?_))
    · have hs0 := of_decide_eq_false hs0
      have hs3 : ¬ (stT T id ≠ 0 ∧ stT T id ≠ 2) := fun h => hs0 h.1
      refine qs rfl rfl ?_
      refine qs rfl rfl ?_
      first | refine q rfl rfl (pkT (v := .bool _) rfl rfl) ?_ | refine q rfl rfl (pkF (v := .bool _) rfl rfl) ?_
      refine q rfl rfl (asg (v := .bool _) rfl) ?_
      refine TL.nil (nt ?_)
      refine TC.condF rfl ?_
      refine TC.skip (nb (nt ?_))
      refine TC.seq ?_
      refine TC.open 0 rfl (fun x0 hx0 => ?_)
      obtain ⟨qb, a, pb, tb, B, M, ad, cap⟩ := x0
      have hN := hx0
      change TC _ _ _ _ _ _ _ (sepL [_, _, _, _, _, _, _, _, _])
      dsimp only at hN ⊢
      refine TC.region ?_
      refine q rfl rfl (mv (v := .pointer _) rfl) ?_
      first | refine q rfl rfl (nc rfl) ?_ | refine q rfl rfl (ncF rfl) ?_ | refine q rfl rfl (ncS rfl (by first | assumption | (simp [ints_length] <;> omega))) ?_
      first | refine q rfl rfl (fa 2 rfl rfl) ?_ | refine q rfl rfl (faS 2 rfl rfl (by first | assumption | (simp [ints_length] <;> omega))) ?_
      first | refine q rfl rfl (ld rfl rfl rfl) ?_ | refine q rfl rfl (ldS rfl rfl rfl) ?_
      refine q rfl rfl (mv (v := .int _ _) rfl) ?_
      refine e rfl ?_
      refine cl (mtake_ok pb M T.m hW id) rfl PkL.p trivial ?_
      intro _ _
      change TL _ _ _ _ _ _ _ _ (sepL [_, _, _, _, _, _, _, _, _])
      refine q rfl rfl (mv (v := .tuple _) rfl) ?_
      refine q rfl rfl (pu (v := .agg #[_, _, _]) (fun _ => rfl)) ?_
      refine q rfl rfl (pu (v := .int _ _) (fun _ => rfl)) ?_
      refine q rfl rfl (pu (v := .int _ _) (fun _ => rfl)) ?_
      refine e rfl ?_
      refine al (l := [.int _ _, .int _ _, .bool _]) rfl rfl ?_
      intro b8
      refine e0 ?_
      refine st (v := .agg #[_, _, _]) (vs := [_, _, _]) 3 rfl rfl rfl rfl rfl rfl (Nat.le_of_ble_eq_true rfl) rfl ?_
      refine q rfl rfl (asg (v := .int _ _) rfl) ?_
      refine q rfl rfl (asg (v := .int _ _) rfl) ?_
      refine TL.nil (nt ?_)
      refine TC.seq ?_
      refine TC.seq ?_
      refine TC.region ?_
      refine q rfl rfl (mv (v := .int _ _) rfl) ?_
      refine q rfl rfl (neI rfl rfl) ?_
      refine TL.nil (nt ?_)
      first | refine TC.condD rfl (fun he => ?_) (fun he => ?_) | refine TC.cond rfl (fun he => ?_) (fun he => ?_)
      · have ho := take_err he
        have hv : takeT T id = (T, o0, (takeS T.m id).2.2.2) := by rw [takeT, if_neg hh, if_neg hs3, if_pos he]
        rw [hv, ho]
        refine TC.seq ?_
        refine TC.region ?_
        first | refine q rfl rfl (bld (cs := [.int _ _, .int _ _, .bool _]) rfl) ?_ | refine q rfl rfl (bld (cs := [_, _, _]) rfl) ?_
        refine q rfl rfl (mv (v := .int _ _) rfl) ?_
        refine e0 ?_
        refine st (v := .agg #[_, _, _]) (vs := [_, _, _]) 3 rfl rfl rfl rfl rfl rfl (Nat.le_of_ble_eq_true rfl) rfl ?_
        refine q rfl rfl (asg (v := .int _ _) rfl) ?_
        refine TL.nil (nt ?_)
        refine TC.ret (rt ?_)
        exact Ret.i () [_, _] ⟨(rcN (n := 3) rfl rfl rfl rfl), rfl, trivial⟩ rfl trivial (ent_close (⟨qb, a, pb, tb, B, M, ad, cap⟩ : TRep) hN (by repeat (first | exact ent_nil _ | refine ent_take 0 rfl ?_ | refine ent_take 1 rfl ?_ | refine ent_take 2 rfl ?_ | refine ent_take 3 rfl ?_ | refine ent_take 4 rfl ?_ | refine ent_take 5 rfl ?_ | refine ent_take 6 rfl ?_ | refine ent_take 7 rfl ?_ | refine ent_take 8 rfl ?_ | refine ent_take 9 rfl ?_ | refine ent_take 10 rfl ?_ | refine ent_take 11 rfl ?_ | refine ent_take 12 rfl ?_)))
      · have he := Decidable.not_not.1 he
        have hv : takeT T id = (takeT1 (mS T (takeS T.m id).1) (takeS T.m id).2.1 (takeS T.m id).2.2.1 (stT T id) id, (takeS T.m id).2.1, 0) := by rw [takeT, if_neg hh, if_neg hs3, if_neg (fun h => h he)]
        rw [hv]
        dsimp only
        obtain ⟨o, r9, hr, ho, f1, f2, f3, f4, f5⟩ := take_form hW h1 he
        have hel : (takeS T.m id).2.2.1 ≠ -1 → (takeS T.m id).2.2.1 ∈ T.m.ids := fun hne => by
          rcases f5 with ⟨_, e, _⟩ | ⟨_, e, _, g, _⟩
          · exact absurd e hne
          · rw [e] at hne ⊢; exact (g hne).1
        have hcl0 : o.cl = false → (takeS T.m id).2.2.1 = -1 := fun hc => by
          rcases f5 with ⟨_, e, _⟩ | ⟨e, _⟩
          · exact e
          · rw [hc] at e; cases e
        rw [ho]
        clear hv he f5 ho hr
        generalize (takeS T.m id).2.2.1 = el at hel hcl0 ⊢
        refine TC.skip (nt ?_)
        refine TC.seq ?_
        refine TC.seq ?_
        have hi9 := take_ids T.m id
        generalize (takeS T.m id).1 = m9 at hi9 ⊢
        rw [← hi9] at hN
        rw [← hi9]
        refine TC.weak (B := sepL [isT b (mS T m9), pts b8 32 (ofC o), pts b1 32 (ofC o0), F]) ((ent_close (⟨qb, a, pb, tb, B, M, ad, cap⟩ : TRep) hN (by repeat (first | exact ent_nil _ | refine ent_take 0 rfl ?_ | refine ent_take 1 rfl ?_ | refine ent_take 2 rfl ?_ | refine ent_take 3 rfl ?_ | refine ent_take 4 rfl ?_ | refine ent_take 5 rfl ?_ | refine ent_take 6 rfl ?_ | refine ent_take 7 rfl ?_ | refine ent_take 8 rfl ?_ | refine ent_take 9 rfl ?_ | refine ent_take 10 rfl ?_ | refine ent_take 11 rfl ?_ | refine ent_take 12 rfl ?_)))) ?_
        have hZ : TZ (mS T m9) 0 := ⟨by show m9.ids.length ≤ 1000; rw [hi9]; exact hil, hnow, htn, hto, hSl, hAl⟩
        have hmi : ∀ (W : TS) (w y : Int), W.m.ids = T.m.ids → (tellS W w [y]).m.ids = T.m.ids := fun W w y e => by rw [(tells_f W w [y]).1, e]
        have hm9 : (mS T m9).m.ids = T.m.ids := hi9
        refine TC.region ?_
        first | refine q rfl rfl (fa 2 rfl rfl) ?_ | refine q rfl rfl (faS 2 rfl rfl (by first | assumption | (simp [ints_length] <;> omega))) ?_
        first | refine q rfl rfl (ld rfl rfl rfl) ?_ | refine q rfl rfl (ldS rfl rfl rfl) ?_
        first | refine q rfl rfl (notD rfl) ?_ | refine q rfl rfl (notB rfl) ?_
        refine TL.nil (nt ?_)
        cases hc : o.cl with
        | true => ?_
        | false => ?_
        · refine TC.condF rfl ?_
          refine TC.skip (nt ?_)
          refine TC.seq ?_
          refine TC.seq ?_
          refine TC.region ?_
          refine q rfl rfl (mv (v := .int _ _) rfl) ?_
          refine q rfl rfl (neI rfl rfl) ?_
          refine TL.nil (nt ?_)
          rcases Decidable.em (el = -1) with hl | hl
          · subst hl
            refine TC.condF rfl ?_
            refine TC.skip (nt ?_)
            refine TC.seq ?_
            refine TC.seq ?_
            refine TC.region ?_
            refine q rfl rfl (mv (v := .int _ _) rfl) ?_
            refine q rfl rfl (eqI rfl rfl) ?_
            refine TL.nil (nt ?_)
            first | refine TC.condD rfl (fun hs9 => ?_) (fun hs9 => ?_) | refine TC.cond rfl (fun hs9 => ?_) (fun hs9 => ?_)
            · have hv : takeT1 (mS T m9) o (-1) (stT T id) id = tellS (mS T m9) 0 [id] := by rw [takeT1, if_pos hc, if_pos (show (-1 : Int) = -1 from rfl), if_pos hs9]
              rw [hv]
              refine TC.region ?_
              refine q rfl rfl (mv (v := .pointer _) rfl) ?_
              refine q rfl rfl (mv (v := .int _ _) rfl) ?_
              refine e rfl ?_
              refine bs (cs := [.int _ _]) rfl ?_
              intro b9
              refine e rfl ?_
              refine cl (ttell_ok b (mS T m9) (TZ.tb (n := 0) hZ (by decide)) (0) (some ⟨b9, 0, none⟩) _ [id] (fun x hx => by rw [List.mem_singleton.1 hx, hm9]; exact h1) (by have := (TZ.S hZ); simp <;> omega) (by have := (TZ.A hZ); omega)) rfl PkL.p ⟨_, RdSI.rd (ad := some ⟨b9, 0, none⟩)⟩ ?_
              intro _ _
              change TL _ _ _ _ _ _ _ _ (sepL [_, _, _, _, _])
              refine TL.nil (nt ?_)
              refine TC.seq ?_
              refine TC.region ?_
              first | refine q rfl rfl (ldN (vs := [_, _, _]) 3 rfl rfl rfl rfl) ?_ | refine q rfl rfl (ldSN (vs := [_, _, _]) 3 rfl rfl rfl rfl (by decide)) ?_
              refine e0 ?_
              refine st (v := .agg #[_, _, _]) (vs := [_, _, _]) 3 rfl rfl rfl rfl rfl rfl (Nat.le_of_ble_eq_true rfl) rfl ?_
              refine q rfl rfl (asg (v := .int _ _) rfl) ?_
              refine TL.nil (nt ?_)
              refine TC.ret ?_
              exact Ret.i () [_, _] ⟨(rcN (n := 3) rfl rfl rfl rfl), rfl, trivial⟩ rfl trivial (by repeat (first | exact ent_nil _ | refine ent_take 0 rfl ?_ | refine ent_take 1 rfl ?_ | refine ent_take 2 rfl ?_ | refine ent_take 3 rfl ?_ | refine ent_take 4 rfl ?_ | refine ent_take 5 rfl ?_ | refine ent_take 6 rfl ?_ | refine ent_take 7 rfl ?_ | refine ent_take 8 rfl ?_ | refine ent_take 9 rfl ?_ | refine ent_take 10 rfl ?_ | refine ent_take 11 rfl ?_ | refine ent_take 12 rfl ?_))
            · have hv : takeT1 (mS T m9) o (-1) (stT T id) id = (mS T m9) := by rw [takeT1, if_pos hc, if_pos (show (-1 : Int) = -1 from rfl), if_neg hs9]
              rw [hv]
              refine TC.skip (nt ?_)
              refine TC.seq ?_
              refine TC.region ?_
              first | refine q rfl rfl (ldN (vs := [_, _, _]) 3 rfl rfl rfl rfl) ?_ | refine q rfl rfl (ldSN (vs := [_, _, _]) 3 rfl rfl rfl rfl (by decide)) ?_
              refine e0 ?_
              refine st (v := .agg #[_, _, _]) (vs := [_, _, _]) 3 rfl rfl rfl rfl rfl rfl (Nat.le_of_ble_eq_true rfl) rfl ?_
              refine q rfl rfl (asg (v := .int _ _) rfl) ?_
              refine TL.nil (nt ?_)
              refine TC.ret ?_
              exact Ret.i () [_, _] ⟨(rcN (n := 3) rfl rfl rfl rfl), rfl, trivial⟩ rfl trivial (by repeat (first | exact ent_nil _ | refine ent_take 0 rfl ?_ | refine ent_take 1 rfl ?_ | refine ent_take 2 rfl ?_ | refine ent_take 3 rfl ?_ | refine ent_take 4 rfl ?_ | refine ent_take 5 rfl ?_ | refine ent_take 6 rfl ?_ | refine ent_take 7 rfl ?_ | refine ent_take 8 rfl ?_ | refine ent_take 9 rfl ?_ | refine ent_take 10 rfl ?_ | refine ent_take 11 rfl ?_ | refine ent_take 12 rfl ?_))
          · refine TC.condD rfl (fun hc2 => ?_) (fun hc2 => absurd (hl) hc2)
            refine TC.region ?_
            refine q rfl rfl (mv (v := .pointer _) rfl) ?_
            refine q rfl rfl (mv (v := .int _ _) rfl) ?_
            refine e rfl ?_
            refine bs (cs := [.int _ _]) rfl ?_
            intro b10
            refine e rfl ?_
            refine cl (ttell_ok b (mS T m9) (TZ.tb (n := 0) hZ (by decide)) (13) (some ⟨b10, 0, none⟩) _ [el] (fun x hx => by rw [List.mem_singleton.1 hx, hm9]; exact (hel hl)) (by have := (TZ.S hZ); simp <;> omega) (by have := (TZ.A hZ); omega)) rfl PkL.p ⟨_, RdSI.rd (ad := some ⟨b10, 0, none⟩)⟩ ?_
            intro _ _
            change TL _ _ _ _ _ _ _ _ (sepL [_, _, _, _, _])
            refine TL.nil (nt ?_)
            refine TC.seq ?_
            refine TC.seq ?_
            refine TC.region ?_
            refine q rfl rfl (mv (v := .int _ _) rfl) ?_
            refine q rfl rfl (eqI rfl rfl) ?_
            refine TL.nil (nt ?_)
            first | refine TC.condD rfl (fun hs9 => ?_) (fun hs9 => ?_) | refine TC.cond rfl (fun hs9 => ?_) (fun hs9 => ?_)
            · have hv : takeT1 (mS T m9) o el (stT T id) id = tellS (tellS (mS T m9) 13 [el]) 0 [id] := by rw [takeT1, if_pos hc, if_neg hl, if_pos hs9]
              rw [hv]
              refine TC.region ?_
              refine q rfl rfl (mv (v := .pointer _) rfl) ?_
              refine q rfl rfl (mv (v := .int _ _) rfl) ?_
              refine e rfl ?_
              refine bs (cs := [.int _ _]) rfl ?_
              intro b11
              refine e rfl ?_
              refine cl (ttell_ok b (tellS (mS T m9) 13 [el]) (TZ.tb (n := 1) (TZ.tell hZ 13 el) (by decide)) (0) (some ⟨b11, 0, none⟩) _ [id] (fun x hx => by rw [List.mem_singleton.1 hx, (hmi (mS T m9) 13 el hm9)]; exact h1) (by have := (TZ.S (TZ.tell hZ 13 el)); simp <;> omega) (by have := (TZ.A (TZ.tell hZ 13 el)); omega)) rfl PkL.p ⟨_, RdSI.rd (ad := some ⟨b11, 0, none⟩)⟩ ?_
              intro _ _
              change TL _ _ _ _ _ _ _ _ (sepL [_, _, _, _, _, _])
              refine TL.nil (nt ?_)
              refine TC.seq ?_
              refine TC.region ?_
              first | refine q rfl rfl (ldN (vs := [_, _, _]) 3 rfl rfl rfl rfl) ?_ | refine q rfl rfl (ldSN (vs := [_, _, _]) 3 rfl rfl rfl rfl (by decide)) ?_
              refine e0 ?_
              refine st (v := .agg #[_, _, _]) (vs := [_, _, _]) 3 rfl rfl rfl rfl rfl rfl (Nat.le_of_ble_eq_true rfl) rfl ?_
              refine q rfl rfl (asg (v := .int _ _) rfl) ?_
              refine TL.nil (nt ?_)
              refine TC.ret ?_
              exact Ret.i () [_, _] ⟨(rcN (n := 3) rfl rfl rfl rfl), rfl, trivial⟩ rfl trivial (by repeat (first | exact ent_nil _ | refine ent_take 0 rfl ?_ | refine ent_take 1 rfl ?_ | refine ent_take 2 rfl ?_ | refine ent_take 3 rfl ?_ | refine ent_take 4 rfl ?_ | refine ent_take 5 rfl ?_ | refine ent_take 6 rfl ?_ | refine ent_take 7 rfl ?_ | refine ent_take 8 rfl ?_ | refine ent_take 9 rfl ?_ | refine ent_take 10 rfl ?_ | refine ent_take 11 rfl ?_ | refine ent_take 12 rfl ?_))
            · have hv : takeT1 (mS T m9) o el (stT T id) id = (tellS (mS T m9) 13 [el]) := by rw [takeT1, if_pos hc, if_neg hl, if_neg hs9]
              rw [hv]
              refine TC.skip (nt ?_)
              refine TC.seq ?_
              refine TC.region ?_
              first | refine q rfl rfl (ldN (vs := [_, _, _]) 3 rfl rfl rfl rfl) ?_ | refine q rfl rfl (ldSN (vs := [_, _, _]) 3 rfl rfl rfl rfl (by decide)) ?_
              refine e0 ?_
              refine st (v := .agg #[_, _, _]) (vs := [_, _, _]) 3 rfl rfl rfl rfl rfl rfl (Nat.le_of_ble_eq_true rfl) rfl ?_
              refine q rfl rfl (asg (v := .int _ _) rfl) ?_
              refine TL.nil (nt ?_)
              refine TC.ret ?_
              exact Ret.i () [_, _] ⟨(rcN (n := 3) rfl rfl rfl rfl), rfl, trivial⟩ rfl trivial (by repeat (first | exact ent_nil _ | refine ent_take 0 rfl ?_ | refine ent_take 1 rfl ?_ | refine ent_take 2 rfl ?_ | refine ent_take 3 rfl ?_ | refine ent_take 4 rfl ?_ | refine ent_take 5 rfl ?_ | refine ent_take 6 rfl ?_ | refine ent_take 7 rfl ?_ | refine ent_take 8 rfl ?_ | refine ent_take 9 rfl ?_ | refine ent_take 10 rfl ?_ | refine ent_take 11 rfl ?_ | refine ent_take 12 rfl ?_))
        · obtain rfl := hcl0 hc
          refine TC.condT rfl ?_
          refine TC.region ?_
          refine q rfl rfl (mv (v := .pointer _) rfl) ?_
          first | refine q rfl rfl (fa 0 rfl rfl) ?_ | refine q rfl rfl (faS 0 rfl rfl (by first | assumption | (simp [ints_length] <;> omega))) ?_
          first | refine q rfl rfl (ld rfl rfl rfl) ?_ | refine q rfl rfl (ldS rfl rfl rfl) ?_
          refine e rfl ?_
          refine bs (cs := [.int _ _]) rfl ?_
          intro b12
          refine e rfl ?_
          refine cl (ttell_ok b (mS T m9) (TZ.tb (n := 0) hZ (by decide)) (0) (some ⟨b12, 0, none⟩) _ [o.fr] (fun x hx => by rw [List.mem_singleton.1 hx, hm9]; exact f1) (by have := (TZ.S hZ); simp <;> omega) (by have := (TZ.A hZ); omega)) rfl PkL.p ⟨_, RdSI.rd (ad := some ⟨b12, 0, none⟩)⟩ ?_
          intro _ _
          change TL _ _ _ _ _ _ _ _ (sepL [_, _, _, _, _])
          refine TL.nil (nt ?_)
          refine TC.seq ?_
          refine TC.seq ?_
          refine TC.region ?_
          refine q rfl rfl (mv (v := .int _ _) rfl) ?_
          refine q rfl rfl (neI rfl rfl) ?_
          refine TL.nil (nt ?_)
          refine TC.condF rfl ?_
          refine TC.skip (nt ?_)
          refine TC.seq ?_
          refine TC.seq ?_
          refine TC.region ?_
          refine q rfl rfl (mv (v := .int _ _) rfl) ?_
          refine q rfl rfl (eqI rfl rfl) ?_
          refine TL.nil (nt ?_)
          first | refine TC.condD rfl (fun hs9 => ?_) (fun hs9 => ?_) | refine TC.cond rfl (fun hs9 => ?_) (fun hs9 => ?_)
          · have hv : takeT1 (mS T m9) o (-1) (stT T id) id = tellS (tellS (mS T m9) 0 [o.fr]) 0 [id] := by rw [takeT1, if_neg (show ¬ (o.cl = true) by rw [hc]; decide), if_pos (show (-1 : Int) = -1 from rfl), if_pos hs9]
            rw [hv]
            refine TC.region ?_
            refine q rfl rfl (mv (v := .pointer _) rfl) ?_
            refine q rfl rfl (mv (v := .int _ _) rfl) ?_
            refine e rfl ?_
            refine bs (cs := [.int _ _]) rfl ?_
            intro b13
            refine e rfl ?_
            refine cl (ttell_ok b (tellS (mS T m9) 0 [o.fr]) (TZ.tb (n := 1) (TZ.tell hZ 0 o.fr) (by decide)) (0) (some ⟨b13, 0, none⟩) _ [id] (fun x hx => by rw [List.mem_singleton.1 hx, (hmi (mS T m9) 0 o.fr hm9)]; exact h1) (by have := (TZ.S (TZ.tell hZ 0 o.fr)); simp <;> omega) (by have := (TZ.A (TZ.tell hZ 0 o.fr)); omega)) rfl PkL.p ⟨_, RdSI.rd (ad := some ⟨b13, 0, none⟩)⟩ ?_
            intro _ _
            change TL _ _ _ _ _ _ _ _ (sepL [_, _, _, _, _, _])
            refine TL.nil (nt ?_)
            refine TC.seq ?_
            refine TC.region ?_
            first | refine q rfl rfl (ldN (vs := [_, _, _]) 3 rfl rfl rfl rfl) ?_ | refine q rfl rfl (ldSN (vs := [_, _, _]) 3 rfl rfl rfl rfl (by decide)) ?_
            refine e0 ?_
            refine st (v := .agg #[_, _, _]) (vs := [_, _, _]) 3 rfl rfl rfl rfl rfl rfl (Nat.le_of_ble_eq_true rfl) rfl ?_
            refine q rfl rfl (asg (v := .int _ _) rfl) ?_
            refine TL.nil (nt ?_)
            refine TC.ret ?_
            exact Ret.i () [_, _] ⟨(rcN (n := 3) rfl rfl rfl rfl), rfl, trivial⟩ rfl trivial (by repeat (first | exact ent_nil _ | refine ent_take 0 rfl ?_ | refine ent_take 1 rfl ?_ | refine ent_take 2 rfl ?_ | refine ent_take 3 rfl ?_ | refine ent_take 4 rfl ?_ | refine ent_take 5 rfl ?_ | refine ent_take 6 rfl ?_ | refine ent_take 7 rfl ?_ | refine ent_take 8 rfl ?_ | refine ent_take 9 rfl ?_ | refine ent_take 10 rfl ?_ | refine ent_take 11 rfl ?_ | refine ent_take 12 rfl ?_))
          · have hv : takeT1 (mS T m9) o (-1) (stT T id) id = (tellS (mS T m9) 0 [o.fr]) := by rw [takeT1, if_neg (show ¬ (o.cl = true) by rw [hc]; decide), if_pos (show (-1 : Int) = -1 from rfl), if_neg hs9]
            rw [hv]
            refine TC.skip (nt ?_)
            refine TC.seq ?_
            refine TC.region ?_
            first | refine q rfl rfl (ldN (vs := [_, _, _]) 3 rfl rfl rfl rfl) ?_ | refine q rfl rfl (ldSN (vs := [_, _, _]) 3 rfl rfl rfl rfl (by decide)) ?_
            refine e0 ?_
            refine st (v := .agg #[_, _, _]) (vs := [_, _, _]) 3 rfl rfl rfl rfl rfl rfl (Nat.le_of_ble_eq_true rfl) rfl ?_
            refine q rfl rfl (asg (v := .int _ _) rfl) ?_
            refine TL.nil (nt ?_)
            refine TC.ret ?_
            exact Ret.i () [_, _] ⟨(rcN (n := 3) rfl rfl rfl rfl), rfl, trivial⟩ rfl trivial (by repeat (first | exact ent_nil _ | refine ent_take 0 rfl ?_ | refine ent_take 1 rfl ?_ | refine ent_take 2 rfl ?_ | refine ent_take 3 rfl ?_ | refine ent_take 4 rfl ?_ | refine ent_take 5 rfl ?_ | refine ent_take 6 rfl ?_ | refine ent_take 7 rfl ?_ | refine ent_take 8 rfl ?_ | refine ent_take 9 rfl ?_ | refine ent_take 10 rfl ?_ | refine ent_take 11 rfl ?_ | refine ent_take 12 rfl ?_))
  · refine e rfl ?_
    refine cl (tatc_no b T id h1) rfl PkL.p trivial ?_
    intro _ _
    change TL _ _ _ _ _ _ _ _ (sepL [_, _, _])
    have hv : takeT T id = (T, o0, 6) := if_pos h1
    rw [hv]
    refine q rfl rfl (mv (v := .tuple _) rfl) ?_
    refine q rfl rfl (pu (v := .pointer _) (fun _ => rfl)) ?_
    refine q rfl rfl (pu (v := .int _ _) (fun _ => rfl)) ?_
    refine q rfl rfl (asg (v := .pointer _) rfl) ?_
    refine q rfl rfl (asg (v := .int _ _) rfl) ?_
    refine TL.nil (nt ?_)
    refine TC.seq ?_
    refine TC.region ?_
    refine q rfl rfl (mv (v := .pointer _) rfl) ?_
    refine q rfl rfl (mv (v := .int _ _) rfl) ?_
    refine e rfl ?_
    refine cl (tstate_ok b T id) rfl PkL.p trivial ?_
    intro _ _
    change TL _ _ _ _ _ _ _ _ (sepL [_, _, _])
    refine q rfl rfl (asg (v := .int _ _) rfl) ?_
    refine TL.nil (nt ?_)
    refine TC.seq ?_
    refine TC.block ?_
    refine TC.seq ?_
    refine TC.region ?_
    refine q rfl rfl (mv (v := .int _ _) rfl) ?_
    refine q rfl rfl (neI rfl rfl) ?_
    refine q rfl rfl (asg (v := .bool _) rfl) ?_
    refine TL.nil (nt ?_)
    refine TC.condT rfl ?_
    refine TC.seq ?_
    refine TC.region ?_
    first | refine q rfl rfl (bld (cs := [.int _ _, .int _ _, .bool _]) rfl) ?_ | refine q rfl rfl (bld (cs := [_, _, _]) rfl) ?_
    refine q rfl rfl (mv (v := .int _ _) rfl) ?_
    refine e0 ?_
    refine st (v := .agg #[_, _, _]) (vs := [_, _, _]) 3 rfl rfl rfl rfl rfl rfl (Nat.le_of_ble_eq_true rfl) rfl ?_
    refine q rfl rfl (asg (v := .int _ _) rfl) ?_
    refine TL.nil (nt ?_)
    refine TC.ret (rb (rt ?_))
    exact Ret.i () [_, _] ⟨(rcN (n := 3) rfl rfl rfl rfl), rfl, trivial⟩ rfl trivial (by repeat (first | exact ent_nil _ | refine ent_take 0 rfl ?_ | refine ent_take 1 rfl ?_ | refine ent_take 2 rfl ?_ | refine ent_take 3 rfl ?_ | refine ent_take 4 rfl ?_ | refine ent_take 5 rfl ?_ | refine ent_take 6 rfl ?_ | refine ent_take 7 rfl ?_ | refine ent_take 8 rfl ?_ | refine ent_take 9 rfl ?_ | refine ent_take 10 rfl ?_ | refine ent_take 11 rfl ?_ | refine ent_take 12 rfl ?_))

set_option maxRecDepth 4000 in
theorem trun_ok (b : Nat) (T : TS) (hP : TP T []) (hb : TB T) : FSpec Try.prog 14 [.pointer (some ⟨b, 0, none⟩)] noRd [isT b T] (fun _ : Unit => .int .i64 (runS T.S)) (fun _ => True) (fun _ => [isT b T]) := by
  refine FSpec.intro (rs := [.tmp 2]) (by kernel_rfl) Try.func14 rfl Try.ntmps14 (by rfl) rfl ?_
  intro F _
  change TC _ _ _ _ _ _ _ (sepL [_, _])
  obtain ⟨hSl, hAl, _, hil⟩ := hP.bds hb
  have hW := hP.wm
  have hnow := hb.now
  have htn := hb.tn
  have htold := hb.told
  refine TC.open 0 rfl (fun x0 hx0 => ?_)
  obtain ⟨qb, a, pb, tb, B, M, ad, cap⟩ := x0
  have hN := hx0
  change TC _ _ _ _ _ _ _ (sepL [_, _, _, _, _, _, _, _])
  dsimp only at hN ⊢
  refine TC.seq ?_
  refine TC.region ?_
  refine q rfl rfl (asg (v := .int _ _) rfl) ?_
  refine TL.nil (nt ?_)
  refine TC.seq ?_
  refine TC.seq ?_
  refine TC.region ?_
  refine q rfl rfl (mv (v := .pointer _) rfl) ?_
  refine q rfl rfl (eqNil rfl rfl rfl) ?_
  refine TL.nil (nt ?_)
  refine TC.condF rfl ?_
  refine TC.skip (nt ?_)
  refine TC.seq ?_
  refine TC.region ?_
  refine q rfl rfl (mv (v := .pointer _) rfl) ?_
  first | refine q rfl rfl (nc rfl) ?_ | refine q rfl rfl (ncF rfl) ?_ | refine q rfl rfl (ncS rfl (by first | assumption | (simp [ints_length] <;> omega))) ?_
  first | refine q rfl rfl (fa 0 rfl rfl) ?_ | refine q rfl rfl (faS 0 rfl rfl (by first | assumption | (simp [ints_length] <;> omega))) ?_
  first | refine q rfl rfl (ld rfl rfl rfl) ?_ | refine q rfl rfl (ldS rfl rfl rfl) ?_
  refine e rfl ?_
  refine cl (Rd.run_ok qb T.S (by omega)) rfl PkL.p trivial ?_
  intro _ _
  change TL _ _ _ _ _ _ _ _ (sepL [_, _, _, _, _, _, _, _])
  refine q rfl rfl (asg (v := .int _ _) rfl) ?_
  refine TL.nil (nt ?_)
  refine TC.ret ?_
  exact Ret.i () [_] ⟨rfl, trivial⟩ rfl trivial (ent_close (⟨qb, a, pb, tb, B, M, ad, cap⟩ : TRep) hN (by repeat (first | exact ent_nil _ | refine ent_take 0 rfl ?_ | refine ent_take 1 rfl ?_ | refine ent_take 2 rfl ?_ | refine ent_take 3 rfl ?_ | refine ent_take 4 rfl ?_ | refine ent_take 5 rfl ?_ | refine ent_take 6 rfl ?_ | refine ent_take 7 rfl ?_ | refine ent_take 8 rfl ?_ | refine ent_take 9 rfl ?_ | refine ent_take 10 rfl ?_ | refine ent_take 11 rfl ?_ | refine ent_take 12 rfl ?_)))

set_option maxRecDepth 4000 in
theorem trun_nil  : FSpec Try.prog 14 [.pointer none] noRd [] (fun _ : Unit => .int .i64 (-1)) (fun _ => True) (fun _ => []) := by
  refine FSpec.intro (rs := [.tmp 2]) (by kernel_rfl) Try.func14 rfl Try.ntmps14 (by rfl) rfl ?_
  intro F _
  change TC _ _ _ _ _ _ _ (sepL [_])
  refine TC.seq ?_
  refine TC.region ?_
  refine q rfl rfl (asg (v := .int _ _) rfl) ?_
  refine TL.nil (nt ?_)
  refine TC.seq ?_
  refine TC.seq ?_
  refine TC.region ?_
  refine q rfl rfl (mv (v := .pointer _) rfl) ?_
  refine q rfl rfl (eqNil rfl rfl rfl) ?_
  refine TL.nil (nt ?_)
  refine TC.condT rfl ?_
  refine TC.seq ?_
  refine TC.region ?_
  refine q rfl rfl (asg (v := .int _ _) rfl) ?_
  refine TL.nil (nt ?_)
  refine TC.ret (rt ?_)
  exact Ret.i () [_] ⟨rfl, trivial⟩ rfl trivial (ent_take 0 rfl (ent_nil _))

set_option maxRecDepth 4000 in
theorem tyield_ok (b : Nat) (T : TS) (hP : TP T []) (hb : TB T) : FSpec Try.prog 24 [.pointer (some ⟨b, 0, none⟩)] noRd [isT b T] (fun _ : Unit => .int .i64 (runS (yieldT T).S)) (fun _ => True) (fun _ => [isT b (yieldT T)]) := by
  refine FSpec.intro (rs := [.tmp 2]) (by kernel_rfl) Try.func24 rfl Try.ntmps24 (by rfl) rfl ?_
  intro F _
  change TC _ _ _ _ _ _ _ (sepL [_, _])
  obtain ⟨hSl, hAl, _, hil⟩ := hP.bds hb
  have hW := hP.wm
  have hnow := hb.now
  have htn := hb.tn
  have htold := hb.told
  refine TC.open 0 rfl (fun x0 hx0 => ?_)
  obtain ⟨qb, a, pb, tb, B, M, ad, cap⟩ := x0
  have hN := hx0
  change TC _ _ _ _ _ _ _ (sepL [_, _, _, _, _, _, _, _])
  dsimp only at hN ⊢
  refine TC.seq ?_
  refine TC.region ?_
  refine q rfl rfl (asg (v := .int _ _) rfl) ?_
  refine TL.nil (nt ?_)
  refine TC.seq ?_
  refine TC.seq ?_
  refine TC.region ?_
  refine q rfl rfl (mv (v := .pointer _) rfl) ?_
  refine q rfl rfl (eqNil rfl rfl rfl) ?_
  refine TL.nil (nt ?_)
  refine TC.condF rfl ?_
  refine TC.skip (nt ?_)
  refine TC.seq ?_
  refine TC.region ?_
  refine q rfl rfl (mv (v := .pointer _) rfl) ?_
  first | refine q rfl rfl (nc rfl) ?_ | refine q rfl rfl (ncF rfl) ?_ | refine q rfl rfl (ncS rfl (by first | assumption | (simp [ints_length] <;> omega))) ?_
  first | refine q rfl rfl (fa 0 rfl rfl) ?_ | refine q rfl rfl (faS 0 rfl rfl (by first | assumption | (simp [ints_length] <;> omega))) ?_
  first | refine q rfl rfl (ld rfl rfl rfl) ?_ | refine q rfl rfl (ldS rfl rfl rfl) ?_
  refine e rfl ?_
  refine cl (Rd.yield_ok qb T.S (by omega) hP.rj) rfl PkL.p trivial ?_
  intro _ _
  change TL _ _ _ _ _ _ _ _ (sepL [_, _, _, _, _, _, _, _])
  refine q rfl rfl (asg (v := .int _ _) rfl) ?_
  refine TL.nil (nt ?_)
  refine TC.ret ?_
  exact Ret.i () [_] ⟨rfl, trivial⟩ rfl trivial (ent_close (⟨qb, a, pb, tb, B, M, ad, cap⟩ : TRep) hN (by repeat (first | exact ent_nil _ | refine ent_take 0 rfl ?_ | refine ent_take 1 rfl ?_ | refine ent_take 2 rfl ?_ | refine ent_take 3 rfl ?_ | refine ent_take 4 rfl ?_ | refine ent_take 5 rfl ?_ | refine ent_take 6 rfl ?_ | refine ent_take 7 rfl ?_ | refine ent_take 8 rfl ?_ | refine ent_take 9 rfl ?_ | refine ent_take 10 rfl ?_ | refine ent_take 11 rfl ?_ | refine ent_take 12 rfl ?_)))

set_option maxRecDepth 4000 in
theorem tyield_nil  : FSpec Try.prog 24 [.pointer none] noRd [] (fun _ : Unit => .int .i64 (-1)) (fun _ => True) (fun _ => []) := by
  refine FSpec.intro (rs := [.tmp 2]) (by kernel_rfl) Try.func24 rfl Try.ntmps24 (by rfl) rfl ?_
  intro F _
  change TC _ _ _ _ _ _ _ (sepL [_])
  refine TC.seq ?_
  refine TC.region ?_
  refine q rfl rfl (asg (v := .int _ _) rfl) ?_
  refine TL.nil (nt ?_)
  refine TC.seq ?_
  refine TC.seq ?_
  refine TC.region ?_
  refine q rfl rfl (mv (v := .pointer _) rfl) ?_
  refine q rfl rfl (eqNil rfl rfl rfl) ?_
  refine TL.nil (nt ?_)
  refine TC.condT rfl ?_
  refine TC.seq ?_
  refine TC.region ?_
  refine q rfl rfl (asg (v := .int _ _) rfl) ?_
  refine TL.nil (nt ?_)
  refine TC.ret (rt ?_)
  exact Ret.i () [_] ⟨rfl, trivial⟩ rfl trivial (ent_take 0 rfl (ent_nil _))

set_option maxRecDepth 4000 in
theorem tcaller_ok (b : Nat) (T : TS) (hP : TP T []) (hb : TB T) (id : Int) : FSpec Try.prog 18 [.pointer (some ⟨b, 0, none⟩), .int .i64 id] noRd [isT b T] (fun _ : Unit => .int .i64 (clR T.m id)) (fun _ => True) (fun _ => [isT b T]) := by
  refine FSpec.intro (rs := [.tmp 4]) (by kernel_rfl) Try.func18 rfl Try.ntmps18 (by rfl) rfl ?_
  intro F _
  change TC _ _ _ _ _ _ _ (sepL [_, _])
  obtain ⟨hSl, hAl, _, hil⟩ := hP.bds hb
  have hW := hP.wm
  have hnow := hb.now
  have htn := hb.tn
  have htold := hb.told
  refine TC.open 0 rfl (fun x0 hx0 => ?_)
  obtain ⟨qb, a, pb, tb, B, M, ad, cap⟩ := x0
  have hN := hx0
  change TC _ _ _ _ _ _ _ (sepL [_, _, _, _, _, _, _, _])
  dsimp only at hN ⊢
  refine TC.seq ?_
  refine TC.region ?_
  refine q rfl rfl (asg (v := .int _ _) rfl) ?_
  refine TL.nil (nt ?_)
  refine TC.seq ?_
  refine TC.seq ?_
  refine TC.region ?_
  refine q rfl rfl (mv (v := .pointer _) rfl) ?_
  refine q rfl rfl (eqNil rfl rfl rfl) ?_
  refine TL.nil (nt ?_)
  refine TC.condF rfl ?_
  refine TC.skip (nt ?_)
  refine TC.seq ?_
  refine TC.region ?_
  refine q rfl rfl (mv (v := .pointer _) rfl) ?_
  first | refine q rfl rfl (nc rfl) ?_ | refine q rfl rfl (ncF rfl) ?_ | refine q rfl rfl (ncS rfl (by first | assumption | (simp [ints_length] <;> omega))) ?_
  first | refine q rfl rfl (fa 2 rfl rfl) ?_ | refine q rfl rfl (faS 2 rfl rfl (by first | assumption | (simp [ints_length] <;> omega))) ?_
  first | refine q rfl rfl (ld rfl rfl rfl) ?_ | refine q rfl rfl (ldS rfl rfl rfl) ?_
  refine q rfl rfl (mv (v := .int _ _) rfl) ?_
  refine e rfl ?_
  refine cl (mcaller_ok pb M T.m id) rfl PkL.p trivial ?_
  intro _ _
  change TL _ _ _ _ _ _ _ _ (sepL [_, _, _, _, _, _, _, _])
  refine q rfl rfl (asg (v := .int _ _) rfl) ?_
  refine TL.nil (nt ?_)
  refine TC.ret ?_
  exact Ret.i () [_] ⟨rfl, trivial⟩ rfl trivial (ent_close (⟨qb, a, pb, tb, B, M, ad, cap⟩ : TRep) hN (by repeat (first | exact ent_nil _ | refine ent_take 0 rfl ?_ | refine ent_take 1 rfl ?_ | refine ent_take 2 rfl ?_ | refine ent_take 3 rfl ?_ | refine ent_take 4 rfl ?_ | refine ent_take 5 rfl ?_ | refine ent_take 6 rfl ?_ | refine ent_take 7 rfl ?_ | refine ent_take 8 rfl ?_ | refine ent_take 9 rfl ?_ | refine ent_take 10 rfl ?_ | refine ent_take 11 rfl ?_ | refine ent_take 12 rfl ?_)))

set_option maxRecDepth 4000 in
theorem tcaller_nil (id : Int) : FSpec Try.prog 18 [.pointer none, .int .i64 id] noRd [] (fun _ : Unit => .int .i64 (-1)) (fun _ => True) (fun _ => []) := by
  refine FSpec.intro (rs := [.tmp 4]) (by kernel_rfl) Try.func18 rfl Try.ntmps18 (by rfl) rfl ?_
  intro F _
  change TC _ _ _ _ _ _ _ (sepL [_])
  refine TC.seq ?_
  refine TC.region ?_
  refine q rfl rfl (asg (v := .int _ _) rfl) ?_
  refine TL.nil (nt ?_)
  refine TC.seq ?_
  refine TC.seq ?_
  refine TC.region ?_
  refine q rfl rfl (mv (v := .pointer _) rfl) ?_
  refine q rfl rfl (eqNil rfl rfl rfl) ?_
  refine TL.nil (nt ?_)
  refine TC.condT rfl ?_
  refine TC.seq ?_
  refine TC.region ?_
  refine q rfl rfl (asg (v := .int _ _) rfl) ?_
  refine TL.nil (nt ?_)
  refine TC.ret (rt ?_)
  exact Ret.i () [_] ⟨rfl, trivial⟩ rfl trivial (ent_take 0 rfl (ent_nil _))

set_option maxRecDepth 4000 in
theorem tleft_ok (b : Nat) (T : TS) (hP : TP T []) (hb : TB T) (id : Int) : FSpec Try.prog 22 [.pointer (some ⟨b, 0, none⟩), .int .i64 id] noRd [isT b T] (fun _ : Unit => .int .i64 (leftA T.A T.now id)) (fun _ => True) (fun _ => [isT b T]) := by
  refine FSpec.intro (rs := [.tmp 4]) (by kernel_rfl) Try.func22 rfl Try.ntmps22 (by rfl) rfl ?_
  intro F _
  change TC _ _ _ _ _ _ _ (sepL [_, _])
  obtain ⟨hSl, hAl, _, hil⟩ := hP.bds hb
  have hW := hP.wm
  have hnow := hb.now
  have htn := hb.tn
  have htold := hb.told
  refine TC.open 0 rfl (fun x0 hx0 => ?_)
  obtain ⟨qb, a, pb, tb, B, M, ad, cap⟩ := x0
  have hN := hx0
  change TC _ _ _ _ _ _ _ (sepL [_, _, _, _, _, _, _, _])
  dsimp only at hN ⊢
  refine TC.seq ?_
  refine TC.region ?_
  refine q rfl rfl (asg (v := .int _ _) rfl) ?_
  refine TL.nil (nt ?_)
  refine TC.seq ?_
  refine TC.seq ?_
  refine TC.region ?_
  refine q rfl rfl (mv (v := .pointer _) rfl) ?_
  refine q rfl rfl (eqNil rfl rfl rfl) ?_
  refine TL.nil (nt ?_)
  refine TC.condF rfl ?_
  refine TC.skip (nt ?_)
  refine TC.seq ?_
  refine TC.region ?_
  refine q rfl rfl (mv (v := .pointer _) rfl) ?_
  first | refine q rfl rfl (nc rfl) ?_ | refine q rfl rfl (ncF rfl) ?_ | refine q rfl rfl (ncS rfl (by first | assumption | (simp [ints_length] <;> omega))) ?_
  first | refine q rfl rfl (fa 1 rfl rfl) ?_ | refine q rfl rfl (faS 1 rfl rfl (by first | assumption | (simp [ints_length] <;> omega))) ?_
  first | refine q rfl rfl (ld rfl rfl rfl) ?_ | refine q rfl rfl (ldS rfl rfl rfl) ?_
  refine q rfl rfl (mv (v := .int _ _) rfl) ?_
  refine e rfl ?_
  refine cl (Al.left_ok a T.now T.tn T.A (al_bd hb (by omega)) id (fun e he => by have := hP.tm e he; omega)) rfl PkL.p trivial ?_
  intro _ _
  change TL _ _ _ _ _ _ _ _ (sepL [_, _, _, _, _, _, _, _])
  refine q rfl rfl (asg (v := .int _ _) rfl) ?_
  refine TL.nil (nt ?_)
  refine TC.ret ?_
  exact Ret.i () [_] ⟨rfl, trivial⟩ rfl trivial (ent_close (⟨qb, a, pb, tb, B, M, ad, cap⟩ : TRep) hN (by repeat (first | exact ent_nil _ | refine ent_take 0 rfl ?_ | refine ent_take 1 rfl ?_ | refine ent_take 2 rfl ?_ | refine ent_take 3 rfl ?_ | refine ent_take 4 rfl ?_ | refine ent_take 5 rfl ?_ | refine ent_take 6 rfl ?_ | refine ent_take 7 rfl ?_ | refine ent_take 8 rfl ?_ | refine ent_take 9 rfl ?_ | refine ent_take 10 rfl ?_ | refine ent_take 11 rfl ?_ | refine ent_take 12 rfl ?_)))

set_option maxRecDepth 4000 in
theorem tleft_nil (id : Int) : FSpec Try.prog 22 [.pointer none, .int .i64 id] noRd [] (fun _ : Unit => .int .i64 0) (fun _ => True) (fun _ => []) := by
  refine FSpec.intro (rs := [.tmp 4]) (by kernel_rfl) Try.func22 rfl Try.ntmps22 (by rfl) rfl ?_
  intro F _
  change TC _ _ _ _ _ _ _ (sepL [_])
  refine TC.seq ?_
  refine TC.region ?_
  refine q rfl rfl (asg (v := .int _ _) rfl) ?_
  refine TL.nil (nt ?_)
  refine TC.seq ?_
  refine TC.seq ?_
  refine TC.region ?_
  refine q rfl rfl (mv (v := .pointer _) rfl) ?_
  refine q rfl rfl (eqNil rfl rfl rfl) ?_
  refine TL.nil (nt ?_)
  refine TC.condT rfl ?_
  refine TC.seq ?_
  refine TC.region ?_
  refine q rfl rfl (asg (v := .int _ _) rfl) ?_
  refine TL.nil (nt ?_)
  refine TC.ret (rt ?_)
  exact Ret.i () [_] ⟨rfl, trivial⟩ rfl trivial (ent_take 0 rfl (ent_nil _))

set_option maxRecDepth 4000 in
theorem tready_ok (b : Nat) (T : TS) (hP : TP T []) (hb : TB T) (id : Int) : FSpec Try.prog 25 [.pointer (some ⟨b, 0, none⟩), .int .i64 id] noRd [isT b T] (fun y : Option Addr × Nat => .slice y.1 (Rd.rowR T.S id).length y.2) (fun _ => True) (fun y => [slc 3 1 y.1 (Rd.rowR T.S id).length y.2 (ints (Rd.rowR T.S id)), isT b T]) := by
  refine FSpec.intro (rs := [.tmp 4]) (by kernel_rfl) Try.func25 rfl Try.ntmps25 (by rfl) rfl ?_
  intro F _
  change TC _ _ _ _ _ _ _ (sepL [_, _])
  obtain ⟨hSl, hAl, _, hil⟩ := hP.bds hb
  have hW := hP.wm
  have hnow := hb.now
  have htn := hb.tn
  have htold := hb.told
  refine TC.open 0 rfl (fun x0 hx0 => ?_)
  obtain ⟨qb, a, pb, tb, B, M, ad, cap⟩ := x0
  have hN := hx0
  change TC _ _ _ _ _ _ _ (sepL [_, _, _, _, _, _, _, _])
  dsimp only at hN ⊢
  refine TC.seq ?_
  refine TC.region ?_
  refine q rfl rfl (asg (v := .slice _ _ _) rfl) ?_
  refine TL.nil (nt ?_)
  refine TC.seq ?_
  refine TC.seq ?_
  refine TC.region ?_
  refine q rfl rfl (mv (v := .pointer _) rfl) ?_
  refine q rfl rfl (eqNil rfl rfl rfl) ?_
  refine TL.nil (nt ?_)
  refine TC.condF rfl ?_
  refine TC.skip (nt ?_)
  refine TC.seq ?_
  refine TC.region ?_
  refine q rfl rfl (mv (v := .pointer _) rfl) ?_
  first | refine q rfl rfl (nc rfl) ?_ | refine q rfl rfl (ncF rfl) ?_ | refine q rfl rfl (ncS rfl (by first | assumption | (simp [ints_length] <;> omega))) ?_
  first | refine q rfl rfl (fa 0 rfl rfl) ?_ | refine q rfl rfl (faS 0 rfl rfl (by first | assumption | (simp [ints_length] <;> omega))) ?_
  first | refine q rfl rfl (ld rfl rfl rfl) ?_ | refine q rfl rfl (ldS rfl rfl rfl) ?_
  refine q rfl rfl (mv (v := .int _ _) rfl) ?_
  refine e rfl ?_
  refine cl (Rd.row_ok qb T.S (by omega) id) rfl PkL.p trivial ?_
  intro yr _
  change TL _ _ _ _ _ _ _ _ (sepL [_, _, _, _, _, _, _, _, _])
  refine q rfl rfl (asg (v := .slice _ _ _) rfl) ?_
  refine TL.nil (nt ?_)
  refine TC.ret ?_
  exact Ret.i yr [_] ⟨rfl, trivial⟩ rfl trivial (ent_take 0 rfl (ent_close (⟨qb, a, pb, tb, B, M, ad, cap⟩ : TRep) hN (by repeat (first | exact ent_nil _ | refine ent_take 0 rfl ?_ | refine ent_take 1 rfl ?_ | refine ent_take 2 rfl ?_ | refine ent_take 3 rfl ?_ | refine ent_take 4 rfl ?_ | refine ent_take 5 rfl ?_ | refine ent_take 6 rfl ?_ | refine ent_take 7 rfl ?_ | refine ent_take 8 rfl ?_ | refine ent_take 9 rfl ?_ | refine ent_take 10 rfl ?_ | refine ent_take 11 rfl ?_ | refine ent_take 12 rfl ?_))))

set_option maxRecDepth 4000 in
theorem tready_nil (id : Int) : FSpec Try.prog 25 [.pointer none, .int .i64 id] noRd [] (fun _ : Unit => .slice none 0 0) (fun _ => True) (fun _ => []) := by
  refine FSpec.intro (rs := [.tmp 4]) (by kernel_rfl) Try.func25 rfl Try.ntmps25 (by rfl) rfl ?_
  intro F _
  change TC _ _ _ _ _ _ _ (sepL [_])
  refine TC.seq ?_
  refine TC.region ?_
  refine q rfl rfl (asg (v := .slice _ _ _) rfl) ?_
  refine TL.nil (nt ?_)
  refine TC.seq ?_
  refine TC.seq ?_
  refine TC.region ?_
  refine q rfl rfl (mv (v := .pointer _) rfl) ?_
  refine q rfl rfl (eqNil rfl rfl rfl) ?_
  refine TL.nil (nt ?_)
  refine TC.condT rfl ?_
  refine TC.seq ?_
  refine TC.region ?_
  refine q rfl rfl (asg (v := .slice _ _ _) rfl) ?_
  refine TL.nil (nt ?_)
  refine TC.ret (rt ?_)
  exact Ret.i () [_] ⟨rfl, trivial⟩ rfl trivial (ent_take 0 rfl (ent_nil _))

set_option maxRecDepth 4000 in
theorem trow_ok (b : Nat) (T : TS) (hP : TP T []) (hb : TB T) (id : Int) : FSpec Try.prog 27 [.pointer (some ⟨b, 0, none⟩), .int .i64 id] noRd [isT b T] (fun y : Option Addr × Nat => .slice y.1 (rowR T.m id).length y.2) (fun _ => True) (fun y => [slc 32 3 y.1 (rowR T.m id).length y.2 (ofsC (rowR T.m id)), isT b T]) := by
  refine FSpec.intro (rs := [.tmp 4]) (by kernel_rfl) Try.func27 rfl Try.ntmps27 (by rfl) rfl ?_
  intro F _
  change TC _ _ _ _ _ _ _ (sepL [_, _])
  obtain ⟨hSl, hAl, _, hil⟩ := hP.bds hb
  have hW := hP.wm
  have hnow := hb.now
  have htn := hb.tn
  have htold := hb.told
  refine TC.open 0 rfl (fun x0 hx0 => ?_)
  obtain ⟨qb, a, pb, tb, B, M, ad, cap⟩ := x0
  have hN := hx0
  change TC _ _ _ _ _ _ _ (sepL [_, _, _, _, _, _, _, _])
  dsimp only at hN ⊢
  refine TC.seq ?_
  refine TC.region ?_
  refine q rfl rfl (asg (v := .slice _ _ _) rfl) ?_
  refine TL.nil (nt ?_)
  refine TC.seq ?_
  refine TC.seq ?_
  refine TC.region ?_
  refine q rfl rfl (mv (v := .pointer _) rfl) ?_
  refine q rfl rfl (eqNil rfl rfl rfl) ?_
  refine TL.nil (nt ?_)
  refine TC.condF rfl ?_
  refine TC.skip (nt ?_)
  refine TC.seq ?_
  refine TC.region ?_
  refine q rfl rfl (mv (v := .pointer _) rfl) ?_
  first | refine q rfl rfl (nc rfl) ?_ | refine q rfl rfl (ncF rfl) ?_ | refine q rfl rfl (ncS rfl (by first | assumption | (simp [ints_length] <;> omega))) ?_
  first | refine q rfl rfl (fa 2 rfl rfl) ?_ | refine q rfl rfl (faS 2 rfl rfl (by first | assumption | (simp [ints_length] <;> omega))) ?_
  first | refine q rfl rfl (ld rfl rfl rfl) ?_ | refine q rfl rfl (ldS rfl rfl rfl) ?_
  refine q rfl rfl (mv (v := .int _ _) rfl) ?_
  refine e rfl ?_
  refine cl (mrow_ok pb M T.m id (by have := rowRlen hW id; omega)) rfl PkL.p trivial ?_
  intro yr _
  change TL _ _ _ _ _ _ _ _ (sepL [_, _, _, _, _, _, _, _, _])
  refine q rfl rfl (asg (v := .slice _ _ _) rfl) ?_
  refine TL.nil (nt ?_)
  refine TC.ret ?_
  exact Ret.i yr [_] ⟨rfl, trivial⟩ rfl trivial (ent_take 0 rfl (ent_close (⟨qb, a, pb, tb, B, M, ad, cap⟩ : TRep) hN (by repeat (first | exact ent_nil _ | refine ent_take 0 rfl ?_ | refine ent_take 1 rfl ?_ | refine ent_take 2 rfl ?_ | refine ent_take 3 rfl ?_ | refine ent_take 4 rfl ?_ | refine ent_take 5 rfl ?_ | refine ent_take 6 rfl ?_ | refine ent_take 7 rfl ?_ | refine ent_take 8 rfl ?_ | refine ent_take 9 rfl ?_ | refine ent_take 10 rfl ?_ | refine ent_take 11 rfl ?_ | refine ent_take 12 rfl ?_))))

set_option maxRecDepth 4000 in
theorem trow_nil (id : Int) : FSpec Try.prog 27 [.pointer none, .int .i64 id] noRd [] (fun _ : Unit => .slice none 0 0) (fun _ => True) (fun _ => []) := by
  refine FSpec.intro (rs := [.tmp 4]) (by kernel_rfl) Try.func27 rfl Try.ntmps27 (by rfl) rfl ?_
  intro F _
  change TC _ _ _ _ _ _ _ (sepL [_])
  refine TC.seq ?_
  refine TC.region ?_
  refine q rfl rfl (asg (v := .slice _ _ _) rfl) ?_
  refine TL.nil (nt ?_)
  refine TC.seq ?_
  refine TC.seq ?_
  refine TC.region ?_
  refine q rfl rfl (mv (v := .pointer _) rfl) ?_
  refine q rfl rfl (eqNil rfl rfl rfl) ?_
  refine TL.nil (nt ?_)
  refine TC.condT rfl ?_
  refine TC.seq ?_
  refine TC.region ?_
  refine q rfl rfl (asg (v := .slice _ _ _) rfl) ?_
  refine TL.nil (nt ?_)
  refine TC.ret (rt ?_)
  exact Ret.i () [_] ⟨rfl, trivial⟩ rfl trivial (ent_take 0 rfl (ent_nil _))

set_option maxRecDepth 4000 in
theorem ttold_ok (b : Nat) (T : TS) : FSpec Try.prog 21 [.pointer (some ⟨b, 0, none⟩)] noRd [isT b T] (fun y : Option Addr × Nat => .slice y.1 T.told.length y.2) (fun _ => True) (fun y => [slc 39 2 y.1 T.told.length y.2 (tgsC T.told), isT b (toldT T)]) := by
  refine FSpec.intro (rs := [.tmp 2]) (by kernel_rfl) Try.func21 rfl Try.ntmps21 (by rfl) rfl ?_
  intro F _
  change TC _ _ _ _ _ _ _ (sepL [_, _])
  refine TC.open 0 rfl (fun x0 hx0 => ?_)
  obtain ⟨qb, a, pb, tb, B, M, ad, cap⟩ := x0
  have hN := hx0
  change TC _ _ _ _ _ _ _ (sepL [_, _, _, _, _, _, _, _])
  dsimp only at hN ⊢
  refine TC.seq ?_
  refine TC.region ?_
  refine q rfl rfl (asg (v := .slice _ _ _) rfl) ?_
  refine TL.nil (nt ?_)
  refine TC.seq ?_
  refine TC.seq ?_
  refine TC.region ?_
  refine q rfl rfl (mv (v := .pointer _) rfl) ?_
  refine q rfl rfl (eqNil rfl rfl rfl) ?_
  refine TL.nil (nt ?_)
  refine TC.condF rfl ?_
  refine TC.skip (nt ?_)
  refine TC.seq ?_
  refine TC.region ?_
  refine q rfl rfl (mv (v := .pointer _) rfl) ?_
  first | refine q rfl rfl (nc rfl) ?_ | refine q rfl rfl (ncF rfl) ?_ | refine q rfl rfl (ncS rfl (by first | assumption | (simp [ints_length] <;> omega))) ?_
  first | refine q rfl rfl (fa 4 rfl rfl) ?_ | refine q rfl rfl (faS 4 rfl rfl (by first | assumption | (simp [ints_length] <;> omega))) ?_
  first | refine q rfl rfl (ld rfl rfl rfl) ?_ | refine q rfl rfl (ldS rfl rfl rfl) ?_
  refine q rfl rfl (asg (v := .slice _ _ _) rfl) ?_
  refine TL.nil (nt ?_)
  refine TC.seq ?_
  refine TC.region ?_
  refine q rfl rfl (mv (v := .pointer _) rfl) ?_
  first | refine q rfl rfl (nc rfl) ?_ | refine q rfl rfl (ncF rfl) ?_ | refine q rfl rfl (ncS rfl (by first | assumption | (simp [ints_length] <;> omega))) ?_
  first | refine q rfl rfl (fa 4 rfl rfl) ?_ | refine q rfl rfl (faS 4 rfl rfl (by first | assumption | (simp [ints_length] <;> omega))) ?_
  refine e0 ?_
  refine st (v := .slice _ _ _) (vs := [_]) 1 rfl rfl rfl rfl rfl rfl (Nat.le_of_ble_eq_true rfl) rfl ?_
  refine TL.nil (nt ?_)
  refine TC.seq ?_
  refine TC.region ?_
  refine q rfl rfl (mv (v := .slice _ _ _) rfl) ?_
  refine q rfl rfl (asg (v := .slice _ _ _) rfl) ?_
  refine TL.nil (nt ?_)
  refine TC.ret ?_
  exact Ret.i ⟨ad, cap⟩ [_] ⟨rfl, trivial⟩ rfl trivial ((slc_nil 39 2 _).trans (ent_take 7 rfl (ent_close (⟨qb, a, pb, tb, B, M, none, 0⟩ : TRep) hN (by repeat (first | exact ent_nil _ | refine ent_take 0 rfl ?_ | refine ent_take 1 rfl ?_ | refine ent_take 2 rfl ?_ | refine ent_take 3 rfl ?_ | refine ent_take 4 rfl ?_ | refine ent_take 5 rfl ?_ | refine ent_take 6 rfl ?_ | refine ent_take 7 rfl ?_ | refine ent_take 8 rfl ?_ | refine ent_take 9 rfl ?_ | refine ent_take 10 rfl ?_ | refine ent_take 11 rfl ?_ | refine ent_take 12 rfl ?_)))))

set_option maxRecDepth 4000 in
theorem ttold_nil  : FSpec Try.prog 21 [.pointer none] noRd [] (fun _ : Unit => .slice none 0 0) (fun _ => True) (fun _ => []) := by
  refine FSpec.intro (rs := [.tmp 2]) (by kernel_rfl) Try.func21 rfl Try.ntmps21 (by rfl) rfl ?_
  intro F _
  change TC _ _ _ _ _ _ _ (sepL [_])
  refine TC.seq ?_
  refine TC.region ?_
  refine q rfl rfl (asg (v := .slice _ _ _) rfl) ?_
  refine TL.nil (nt ?_)
  refine TC.seq ?_
  refine TC.seq ?_
  refine TC.region ?_
  refine q rfl rfl (mv (v := .pointer _) rfl) ?_
  refine q rfl rfl (eqNil rfl rfl rfl) ?_
  refine TL.nil (nt ?_)
  refine TC.condT rfl ?_
  refine TC.seq ?_
  refine TC.region ?_
  refine q rfl rfl (asg (v := .slice _ _ _) rfl) ?_
  refine TL.nil (nt ?_)
  refine TC.ret (rt ?_)
  exact Ret.i () [_] ⟨rfl, trivial⟩ rfl trivial (ent_take 0 rfl (ent_nil _))

set_option maxRecDepth 4000 in
theorem tclose_nil (gt : Int) : FSpec Try.prog 29 [.pointer none, .int .i64 gt] noRd [] (fun _ : Unit => .int .i64 0) (fun _ => True) (fun _ => []) := by
  refine FSpec.intro (rs := [.tmp 4]) (by kernel_rfl) Try.func29 rfl Try.ntmps29 (by rfl) rfl ?_
  intro F _
  change TC _ _ _ _ _ _ _ (sepL [_])
  refine TC.seq ?_
  refine TC.region ?_
  refine q rfl rfl (asg (v := .int _ _) rfl) ?_
  refine TL.nil (nt ?_)
  refine TC.seq ?_
  refine TC.seq ?_
  refine TC.region ?_
  refine q rfl rfl (mv (v := .pointer _) rfl) ?_
  refine q rfl rfl (eqNil rfl rfl rfl) ?_
  refine TL.nil (nt ?_)
  refine TC.condT rfl ?_
  refine TC.seq ?_
  refine TC.region ?_
  refine q rfl rfl (asg (v := .int _ _) rfl) ?_
  refine TL.nil (nt ?_)
  refine TC.ret (rt ?_)
  exact Ret.i () [_] ⟨rfl, trivial⟩ rfl trivial (ent_take 0 rfl (ent_nil _))

set_option maxRecDepth 4000 in
set_option maxHeartbeats 1000000 in
theorem ttick_ok (b : Nat) (T : TS) (hP : TP T []) (hb : TB T) (hto : T.told.length ≤ 90000000) (hnw : T.now ≤ 900000000) : FSpec Try.prog 26 [.pointer (some ⟨b, 0, none⟩)] noRd [isT b T] (fun _ : Unit => .int .i64 (runS (tickT T).S)) (fun _ => True) (fun _ => [isT b (tickT T)]) := by
  refine FSpec.intro (rs := [.tmp 2]) (by kernel_rfl) Try.func26 rfl Try.ntmps26 (by rfl) rfl ?_
  intro F _
  change TC _ _ _ _ _ _ _ (sepL [_, _])
  obtain ⟨hSl, hAl, _, hil⟩ := hP.bds hb
  have hW := hP.wm
  have hnow := hb.now
  have htn := hb.tn
  have htold := hb.told
  refine TC.open 0 rfl (fun x0 hx0 => ?_)
  obtain ⟨qb, a, pb, tb, B, M, ad, cap⟩ := x0
  have hN := hx0
  change TC _ _ _ _ _ _ _ (sepL [_, _, _, _, _, _, _, _])
  dsimp only at hN ⊢
  refine TC.seq ?_
  refine TC.region ?_
  refine q rfl rfl (asg (v := .int _ _) rfl) ?_
  refine TL.nil (nt ?_)
  refine TC.seq ?_
  refine TC.seq ?_
  refine TC.region ?_
  refine q rfl rfl (mv (v := .pointer _) rfl) ?_
  refine q rfl rfl (eqNil rfl rfl rfl) ?_
  refine TL.nil (nt ?_)
  refine TC.condF rfl ?_
  refine TC.skip (nt ?_)
  refine TC.seq ?_
  refine TC.region ?_
  refine q rfl rfl (mv (v := .pointer _) rfl) ?_
  first | refine q rfl rfl (nc rfl) ?_ | refine q rfl rfl (ncF rfl) ?_ | refine q rfl rfl (ncS rfl (by first | assumption | (simp [ints_length] <;> omega))) ?_
  first | refine q rfl rfl (fa 0 rfl rfl) ?_ | refine q rfl rfl (faS 0 rfl rfl (by first | assumption | (simp [ints_length] <;> omega))) ?_
  first | refine q rfl rfl (ld rfl rfl rfl) ?_ | refine q rfl rfl (ldS rfl rfl rfl) ?_
  refine e rfl ?_
  refine cl (Rd.qtick_ok qb T.S (by omega) (fun t ht => (hP.lf t ht).1)) rfl PkL.p trivial ?_
  intro _ _
  change TL _ _ _ _ _ _ _ _ (sepL [_, _, _, _, _, _, _, _])
  refine TL.nil (nt ?_)
  refine TC.seq ?_
  refine TC.seq ?_
  refine TC.region ?_
  refine q rfl rfl (mv (v := .pointer _) rfl) ?_
  first | refine q rfl rfl (nc rfl) ?_ | refine q rfl rfl (ncF rfl) ?_ | refine q rfl rfl (ncS rfl (by first | assumption | (simp [ints_length] <;> omega))) ?_
  first | refine q rfl rfl (fa 1 rfl rfl) ?_ | refine q rfl rfl (faS 1 rfl rfl (by first | assumption | (simp [ints_length] <;> omega))) ?_
  first | refine q rfl rfl (ld rfl rfl rfl) ?_ | refine q rfl rfl (ldS rfl rfl rfl) ?_
  refine e rfl ?_
  refine cl (Al.tick_ok a T.now T.tn T.A (al_bd hb (by omega)) (fun e he => by have := hP.tm e he; omega)) rfl PkL.p trivial ?_
  intro yt _
  change TL _ _ _ _ _ _ _ _ (sepL [_, _, _, _, _, _, _, _, _])
  have hdl := due_len (T.now + 1) T.A
  have hv : tickT T = wakeL (tickT1 T) (ids (dueA (T.now + 1) T.A)) := rfl
  rw [hv]
  clear hv
  generalize ids (dueA (T.now + 1) T.A) = l at hdl ⊢
  have hli := ints_length l
  refine q rfl rfl (len 3 1 rfl rfl) ?_
  refine q rfl rfl (mv (v := .int _ _) rfl) ?_
  refine TL.nil (nt ?_)
  refine TC.block ?_
  refine TC.weak (B := sepL [isT b (tickT1 T), slc 3 1 yt.1 l.length yt.2 (ints l), F]) ((ent_close (⟨qb, a, pb, tb, B, M, ad, cap⟩ : TRep) hN (by repeat (first | exact ent_nil _ | refine ent_take 0 rfl ?_ | refine ent_take 1 rfl ?_ | refine ent_take 2 rfl ?_ | refine ent_take 3 rfl ?_ | refine ent_take 4 rfl ?_ | refine ent_take 5 rfl ?_ | refine ent_take 6 rfl ?_ | refine ent_take 7 rfl ?_ | refine ent_take 8 rfl ?_ | refine ent_take 9 rfl ?_ | refine ent_take 10 rfl ?_ | refine ent_take 11 rfl ?_ | refine ent_take 12 rfl ?_)))) ?_
  refine TC.loop (ι := Nat) (fun k => k ≤ l.length) (fun k => [(0, .pointer (some ⟨b, 0, none⟩)), (16, .slice yt.1 l.length yt.2), (17, .int .i64 l.length), (18, .int .i64 ((k : Nat) : Int))]) (fun k => sepL [isT b (wakeL (tickT1 T) (l.take k)), slc 3 1 yt.1 l.length yt.2 (ints l), F]) (fun k => l.length - k) 0 (Nat.zero_le _) ⟨rfl, rfl, rfl, rfl, trivial⟩ (by repeat (first | exact ent_nil _ | refine ent_take 0 rfl ?_ | refine ent_take 1 rfl ?_ | refine ent_take 2 rfl ?_ | refine ent_take 3 rfl ?_ | refine ent_take 4 rfl ?_ | refine ent_take 5 rfl ?_ | refine ent_take 6 rfl ?_ | refine ent_take 7 rfl ?_ | refine ent_take 8 rfl ?_ | refine ent_take 9 rfl ?_ | refine ent_take 10 rfl ?_ | refine ent_take 11 rfl ?_ | refine ent_take 12 rfl ?_)) ?_
  rintro k hk ρ0
  dsimp only [updL] at hk ⊢
  refine TC.seq ?_
  refine TC.region ?_
  refine q rfl rfl (lss rfl rfl) ?_
  refine TL.nil (nt ?_)
  refine TC.seq ?_
  first | refine TC.condD rfl (fun hlt => ?_) (fun hlt => ?_) | refine TC.cond rfl (fun hlt => ?_) (fun hlt => ?_)
  · have hlt2 : k < l.length := by omega
    obtain ⟨x, hx⟩ : ∃ x, l[k]? = some x := ⟨l[k], List.getElem?_eq_getElem hlt2⟩
    have hpos : 0 < (ints l).length := by omega
    have hsn := wakeL_snoc (tickT1 T) l hx
    have hP2 := wakeL_TP (l.take k) hP.tick1
    obtain ⟨f1, f2, f3, f4⟩ := wakeL_f (l.take k) (tickT1 T)
    have hjt : (l.take k).length ≤ k := by rw [List.length_take]; omega
    have hb2 : TB (wakeL (tickT1 T) (l.take k)) := ⟨by rw [f1]; exact hb.ids, by rw [f2]; show 0 ≤ T.now + 1 ∧ T.now + 1 ≤ _; omega, by rw [f3]; exact hb.tn, by have e : (tickT1 T).told = T.told := rfl; rw [e] at f4; omega⟩
    refine TC.skip (nt ?_)
    refine TC.seq ?_
    refine TC.block ?_
    refine TC.seq ?_
    refine TC.region ?_
    first | refine q rfl rfl (ixS 3 1 rfl rfl rfl (by omega) (by first | assumption | (simp [ints_length] <;> omega))) ?_ | refine q rfl rfl (ixJ 3 1 rfl rfl rfl (by omega) (by omega) (by first | assumption | (simp [ints_length] <;> omega))) ?_ | refine q rfl rfl (ix 3 1 rfl rfl rfl (by omega) (by omega) rfl) ?_
    first | refine q rfl rfl (ld rfl rfl rfl) ?_ | refine q rfl rfl (ldS rfl rfl (ints_get hx)) ?_ | refine q rfl rfl (ldS rfl rfl rfl) ?_
    refine q rfl rfl (asg (v := .int _ _) rfl) ?_
    refine TL.nil (nt ?_)
    refine TC.region ?_
    refine q rfl rfl (mv (v := .pointer _) rfl) ?_
    refine q rfl rfl (mv (v := .int _ _) rfl) ?_
    refine e rfl ?_
    refine cl (twake_ok b (wakeL (tickT1 T) (l.take k)) hP2 hb2 x 14) rfl PkL.p trivial ?_
    intro _ _
    change TL _ _ _ _ _ _ _ _ (sepL [_, _, _])
    refine TL.nil (nb (nt ?_))
    refine TC.region ?_
    first | refine q rfl rfl (addI rfl rfl (by omega) (by omega)) ?_ | refine q rfl rfl (add rfl rfl rfl) ?_
    refine q rfl rfl (mv (v := .int _ _) rfl) ?_
    refine TL.nil (nt ?_)
    exact ⟨rfl, (k + 1), (by omega), (by omega), ⟨rfl, rfl, rfl, rfl, trivial⟩, (by rw [hsn]; exact (by repeat (first | exact ent_nil _ | refine ent_take 0 rfl ?_ | refine ent_take 1 rfl ?_ | refine ent_take 2 rfl ?_ | refine ent_take 3 rfl ?_ | refine ent_take 4 rfl ?_ | refine ent_take 5 rfl ?_ | refine ent_take 6 rfl ?_ | refine ent_take 7 rfl ?_ | refine ent_take 8 rfl ?_ | refine ent_take 9 rfl ?_ | refine ent_take 10 rfl ?_ | refine ent_take 11 rfl ?_ | refine ent_take 12 rfl ?_)))⟩
  · obtain rfl : k = l.length := by omega
    rw [List.take_length]
    have hP2 := wakeL_TP l hP.tick1
    obtain ⟨f1, f2, f3, f4⟩ := wakeL_f l (tickT1 T)
    have hb2 : TB (wakeL (tickT1 T) l) := ⟨by rw [f1]; exact hb.ids, by rw [f2]; show 0 ≤ T.now + 1 ∧ T.now + 1 ≤ _; omega, by rw [f3]; exact hb.tn, by have e : (tickT1 T).told = T.told := rfl; rw [e] at f4; omega⟩
    refine TC.exit (et (et (eb (nt ?_))))
    refine TC.seq ?_
    refine TC.region ?_
    refine q rfl rfl (mv (v := .pointer _) rfl) ?_
    refine e rfl ?_
    refine cl (trun_ok b (wakeL (tickT1 T) l) hP2 hb2) rfl PkL.p trivial ?_
    intro _ _
    change TL _ _ _ _ _ _ _ _ (sepL [_, _, _])
    refine q rfl rfl (asg (v := .int _ _) rfl) ?_
    refine TL.nil (nt ?_)
    refine TC.ret ?_
    exact Ret.i () [_] ⟨rfl, trivial⟩ rfl trivial (by repeat (first | exact ent_nil _ | refine ent_take 0 rfl ?_ | refine ent_take 1 rfl ?_ | refine ent_take 2 rfl ?_ | refine ent_take 3 rfl ?_ | refine ent_take 4 rfl ?_ | refine ent_take 5 rfl ?_ | refine ent_take 6 rfl ?_ | refine ent_take 7 rfl ?_ | refine ent_take 8 rfl ?_ | refine ent_take 9 rfl ?_ | refine ent_take 10 rfl ?_ | refine ent_take 11 rfl ?_ | refine ent_take 12 rfl ?_))

set_option maxRecDepth 4000 in
theorem ttick_nil  : FSpec Try.prog 26 [.pointer none] noRd [] (fun _ : Unit => .int .i64 (-1)) (fun _ => True) (fun _ => []) := by
  refine FSpec.intro (rs := [.tmp 2]) (by kernel_rfl) Try.func26 rfl Try.ntmps26 (by rfl) rfl ?_
  intro F _
  change TC _ _ _ _ _ _ _ (sepL [_])
  refine TC.seq ?_
  refine TC.region ?_
  refine q rfl rfl (asg (v := .int _ _) rfl) ?_
  refine TL.nil (nt ?_)
  refine TC.seq ?_
  refine TC.seq ?_
  refine TC.region ?_
  refine q rfl rfl (mv (v := .pointer _) rfl) ?_
  refine q rfl rfl (eqNil rfl rfl rfl) ?_
  refine TL.nil (nt ?_)
  refine TC.condT rfl ?_
  refine TC.seq ?_
  refine TC.region ?_
  refine q rfl rfl (asg (v := .int _ _) rfl) ?_
  refine TL.nil (nt ?_)
  refine TC.ret (rt ?_)
  exact Ret.i () [_] ⟨rfl, trivial⟩ rfl trivial (ent_take 0 rfl (ent_nil _))

set_option maxRecDepth 4000 in
theorem tsame_ok (a1 : Option Addr) (c1 : Nat) (xs : List Tg) (a2 : Option Addr) (c2 : Nat) (ys : List Tg) (hl : xs.length ≤ 100000000) : FSpec Try.prog 20 [.slice a1 xs.length c1, .slice a2 ys.length c2] (fun F => (∃ E, RdS F E a1 (tgsC xs)) ∧ ∃ E, RdS F E a2 (tgsC ys)) [] (fun _ : Unit => .bool (decide (xs = ys))) (fun _ => True) (fun _ => []) := by
  refine FSpec.intro (rs := [.tmp 4]) (by kernel_rfl) Try.func20 rfl Try.ntmps20 (by rfl) rfl ?_
  intro F ⟨⟨E1, hF1⟩, ⟨E2, hF2⟩⟩
  change TC _ _ _ _ _ _ _ (sepL [_])
  haveI : RdSI F a1 E1 (tgsC xs) := ⟨hF1⟩
  haveI : RdSI F a2 E2 (tgsC ys) := ⟨hF2⟩
  have hil1 := tgsC_length xs
  have hil2 := tgsC_length ys
  refine TC.seq ?_
  refine TC.region ?_
  refine q rfl rfl (asg (v := .bool _) rfl) ?_
  refine TL.nil (nt ?_)
  refine TC.seq ?_
  refine TC.seq ?_
  refine TC.region ?_
  refine q rfl rfl (mv (v := .slice _ _ _) rfl) ?_
  refine q rfl rfl (len 39 2 rfl rfl) ?_
  refine q rfl rfl (mv (v := .slice _ _ _) rfl) ?_
  refine q rfl rfl (len 39 2 rfl rfl) ?_
  refine q rfl rfl (neI rfl rfl) ?_
  refine TL.nil (nt ?_)
  first | refine TC.condD rfl (fun hne => ?_) (fun hne => ?_) | refine TC.cond rfl (fun hne => ?_) (fun hne => ?_)
  · refine TC.seq ?_
    refine TC.region ?_
    refine q rfl rfl (asg (v := .bool _) rfl) ?_
    refine TL.nil (nt ?_)
    refine TC.ret (rt ?_)
    have hd : decide (xs = ys) = false := decide_eq_false (fun e => hne (by rw [e]))
    exact Ret.i () [_] ⟨rfl, trivial⟩ (by rw [hd]; rfl) trivial (ent_take 0 rfl (ent_nil _))
  · have hle : xs.length = ys.length := by omega
    refine TC.skip (nt ?_)
    refine TC.seq ?_
    refine TC.seq ?_
    refine TC.region ?_
    refine q rfl rfl (asg (v := .int _ _) rfl) ?_
    refine TL.nil (nt ?_)
    refine TC.block ?_
    refine TC.loop (ι := Nat) (fun i => i ≤ xs.length ∧ xs.take i = ys.take i) (fun i => [(0, .slice a1 xs.length c1), (1, .slice a2 ys.length c2), (5, .int .i64 ((i : Nat) : Int))]) (fun i => sepL [F]) (fun i => xs.length - i) 0 ⟨Nat.zero_le _, rfl⟩ ⟨rfl, rfl, rfl, trivial⟩ (ent_take 0 rfl (ent_nil _)) ?_
    rintro k ⟨hinv, hsame⟩ ρ0
    dsimp only [updL] at hinv hsame ⊢
    refine TC.seq ?_
    refine TC.seq ?_
    refine TC.region ?_
    refine q rfl rfl (mv (v := .int _ _) rfl) ?_
    refine q rfl rfl (mv (v := .slice _ _ _) rfl) ?_
    refine q rfl rfl (len 39 2 rfl rfl) ?_
    refine q rfl rfl (lss rfl rfl) ?_
    refine TL.nil (nt ?_)
    first | refine TC.condD rfl (fun hlt => ?_) (fun hlt => ?_) | refine TC.cond rfl (fun hlt => ?_) (fun hlt => ?_)
    · have hlt : k < xs.length := by omega
      have hlt2 : k < ys.length := by omega
      obtain ⟨u, hu⟩ : ∃ u, xs[k]? = some u := ⟨xs[k], List.getElem?_eq_getElem hlt⟩
      obtain ⟨v, hv⟩ : ∃ v, ys[k]? = some v := ⟨ys[k], List.getElem?_eq_getElem hlt2⟩
      have hp1 : 0 < (tgsC xs).length := by omega
      have hp2 : 0 < (tgsC ys).length := by omega
      refine TC.skip (nt ?_)
      refine TC.seq ?_
      refine TC.block ?_
      refine TC.seq ?_
      refine TC.draw _ [] [(0, false), (1, false), (2, false), (3, false), (4, false), (5, false), (6, false), (7, false), (8, false)] (by kernel_rfl) (by kernel_rfl) (ent.refl _) ?_
      refine dq rfl rfl rfl (mv (v := .slice _ _ _) rfl) ?_
      refine dq rfl rfl rfl (mv (v := .int _ _) rfl) ?_
      first | refine dq rfl rfl rfl (ixS 39 2 rfl rfl rfl (by omega) (by first | assumption | (simp [ints_length] <;> omega))) ?_ | refine dq rfl rfl rfl (ixJ 39 2 rfl rfl rfl (by omega) (by omega) (by first | assumption | (simp [ints_length] <;> omega))) ?_ | refine dq rfl rfl rfl (ix 39 2 rfl rfl rfl (by omega) (by omega) rfl) ?_
      first | refine dq rfl rfl rfl (ldN (vs := ints [_, _]) 2 rfl rfl rfl rfl) ?_ | refine dq rfl rfl rfl (ldSN (vs := ints [_, _]) 2 rfl rfl (flat_get_rec tgC_sz hu) rfl (by decide)) ?_ | refine dq rfl rfl rfl (ldSN (vs := ints [_, _]) 2 rfl rfl (flat_get_rec tgC_sz hv) rfl (by decide)) ?_ | refine dq rfl rfl rfl (ldSN (vs := ints [_, _]) 2 rfl rfl rfl rfl (by decide)) ?_
      refine dq rfl rfl rfl (mv (v := .slice _ _ _) rfl) ?_
      refine dq rfl rfl rfl (mv (v := .int _ _) rfl) ?_
      first | refine dq rfl rfl rfl (ixS 39 2 rfl rfl rfl (by omega) (by first | assumption | (simp [ints_length] <;> omega))) ?_ | refine dq rfl rfl rfl (ixJ 39 2 rfl rfl rfl (by omega) (by omega) (by first | assumption | (simp [ints_length] <;> omega))) ?_ | refine dq rfl rfl rfl (ix 39 2 rfl rfl rfl (by omega) (by omega) rfl) ?_
      first | refine dq rfl rfl rfl (ldN (vs := ints [_, _]) 2 rfl rfl rfl rfl) ?_ | refine dq rfl rfl rfl (ldSN (vs := ints [_, _]) 2 rfl rfl (flat_get_rec tgC_sz hu) rfl (by decide)) ?_ | refine dq rfl rfl rfl (ldSN (vs := ints [_, _]) 2 rfl rfl (flat_get_rec tgC_sz hv) rfl (by decide)) ?_ | refine dq rfl rfl rfl (ldSN (vs := ints [_, _]) 2 rfl rfl rfl rfl (by decide)) ?_
      refine dq rfl rfl rfl (neS 2 (by kernel_rfl) rfl rfl rfl rfl) ?_
      refine TD.nil (nt ?_)
      first | refine TC.condD rfl (fun hd => ?_) (fun hd => ?_) | refine TC.cond rfl (fun hd => ?_) (fun hd => ?_)
      · refine TC.seq ?_
        refine TC.region ?_
        refine q rfl rfl (asg (v := .bool _) rfl) ?_
        refine TL.nil (nt ?_)
        refine TC.ret (rb (rt (rt (rb (rt ?_)))))
        have hdd : decide (xs = ys) = false := decide_eq_false (fun e => by subst e; rw [hu] at hv; cases hv; exact hd rfl)
        exact Ret.i () [_] ⟨rfl, trivial⟩ (by rw [hdd]; rfl) trivial (ent_take 0 rfl (ent_nil _))
      · have huv : u = v := by
          obtain ⟨a9, b9⟩ := u; obtain ⟨c9, d9⟩ := v
          have := Decidable.not_not.1 hd
          simp at this
          rw [this.1, this.2]
        refine TC.skip (nb (nt ?_))
        refine TC.region ?_
        refine q rfl rfl (mv (v := .int _ _) rfl) ?_
        first | refine q rfl rfl (addI rfl rfl (by omega) (by omega)) ?_ | refine q rfl rfl (add rfl rfl rfl) ?_
        refine q rfl rfl (asg (v := .int _ _) rfl) ?_
        refine TL.nil (nt ?_)
        exact ⟨rfl, (k + 1), ⟨by omega, by rw [List.take_add_one, List.take_add_one, hsame, hu, hv, huv]⟩, (by omega), ⟨rfl, rfl, rfl, trivial⟩, (ent_take 0 rfl (ent_nil _))⟩
    · obtain rfl : k = xs.length := by omega
      have hdd : decide (xs = ys) = true := decide_eq_true (by rw [List.take_length, hle, List.take_length] at hsame; exact hsame)
      refine TC.exit (et (et (eb (nt ?_))))
      refine TC.seq ?_
      refine TC.region ?_
      refine q rfl rfl (asg (v := .bool _) rfl) ?_
      refine TL.nil (nt ?_)
      refine TC.ret ?_
      exact Ret.i () [_] ⟨rfl, trivial⟩ (by rw [hdd]; rfl) trivial (ent_take 0 rfl (ent_nil _))

end Go.Proofs.Ytdfmfhcjnjfjbaa
