/-
  Proved here: what functions of this program compute, each as a contract over symbolic states, under the premises that each theorem names (most lines printed by a program of the prover).
-/
import Derived.Test.YtffoeolgjgpmjaaFoD
namespace Go.Proofs.Ytffoeolgjgpmjaa
open Go Go.QM
theorem cut_step {L : List Fn} (hn : NdN L) {B : List Int} {i : Nat} {t : Fn} (ht : t ∈ L) (hx : B[i]? = some t.id) :
    offN (offL L (B.take i)) t.id = offL L (B.take (i + 1)) ∧ spsC ((B.take i).map (spotN L)) ++ spsC [spN t] = spsC ((B.take (i + 1)).map (spotN L)) := by
  rw [List.take_add_one, hx, Option.toList, offL_snoc, List.map_append, sps_app]
  exact ⟨rfl, by rw [List.map_singleton, spotN_yes hn ht]⟩
theorem cut_has {L : List Fn} {last : Int} (h : WI L last) (id : Int) {x : Int} : hasN (cutN L last id) x ↔ hasN L x ∧ x ∉ belR L last id := by
  constructor
  · rintro ⟨t, ht, rfl⟩; have := offL_mem.1 ht; exact ⟨⟨t, this.1, rfl⟩, this.2⟩
  · rintro ⟨⟨t, ht, rfl⟩, h2⟩; exact ⟨t, offL_mem.2 ⟨ht, h2⟩, rfl⟩
theorem not_below {L : List Fn} {last : Int} (h : WI L last) (id : Int) : id ∉ belR L last id := fun h2 => by have := (belR_mem h h2).2.1; omega
theorem cut_self {L : List Fn} {last : Int} (h : WI L last) (id : Int) : hasN (cutN L last id) id ↔ hasN L id := by
  rw [cut_has h]; exact ⟨fun h2 => h2.1, fun h2 => ⟨h2, not_below h id⟩⟩
theorem WI.cut {L : List Fn} {last : Int} (h : WI L last) (id : Int) : WI (cutN L last id) last := h.offL _
theorem move_perm {Z M : List Fn} {u : Fn} (hn : NdN Z) (hZ : Z.Perm (u :: M)) (p : Int) : ((⟨u.id, p, u.sp, u.sl⟩ : Fn) :: M).Perm (moveN Z u p) :=
  ((offN_perm hn hZ).symm.cons _).trans (List.perm_append_singleton _ _).symm
theorem move_has {Z : List Fn} {u : Fn} (hu : u ∈ Z) (p x : Int) : hasN (moveN Z u p) x ↔ hasN Z x := by
  have : hasN (moveN Z u p) x ↔ hasN (offN Z u.id) x ∨ u.id = x := by simp [moveN, hasN, or_and_right, exists_or]
  rw [this, offN_has]
  constructor
  · rintro (h | h)
    · exact h.1
    · exact ⟨u, hu, h⟩
  · intro h
    by_cases e : x = u.id
    · exact .inr e.symm
    · exact .inl ⟨h, e⟩
theorem move_len {Z : List Fn} {u : Fn} (hn : NdN Z) (hu : u ∈ Z) (p : Int) : (moveN Z u p).length = Z.length := by
  have := offN_len hn hu
  rw [moveN, List.length_append, List.length_singleton]; exact this
theorem fO_congr {S T : List Fn} (hS : NdO S) (hT : NdO T) (h : ∀ o i, (∃ t ∈ S, spN t = o ∧ t.id = i) ↔ ∃ t ∈ T, spN t = o ∧ t.id = i) : fO S = fO T := by
  funext o
  by_cases h1 : hasO S o
  · obtain ⟨t, ht, rfl⟩ := h1
    obtain ⟨u, hu, h2, h3⟩ := (h (spN t) t.id).1 ⟨t, ht, rfl, rfl⟩
    rw [fO_yes hS ht, ← h2, fO_yes hT hu, h3]
  · rw [fO_no h1, fO_no]
    rintro ⟨u, hu, h2⟩
    obtain ⟨t, ht, h3, _⟩ := (h o u.id).2 ⟨u, hu, h2, rfl⟩
    exact h1 ⟨t, ht, h3⟩
theorem fO_move {Z : List Fn} {last : Int} (h : WI Z last) {u : Fn} (hu : u ∈ Z) {p : Int} (hp : 0 ≤ p ∧ p < u.id) : fO (moveN Z u p) = fO Z := by
  refine fO_congr (h.move hu hp).no h.no fun o i => ?_
  constructor
  · rintro ⟨t, ht, h1, h2⟩
    rcases List.mem_append.1 ht with ht | ht
    · exact ⟨t, (offN_mem.1 ht).1, h1, h2⟩
    · rw [List.mem_singleton.1 ht] at h1 h2; exact ⟨u, hu, h1, h2⟩
  · rintro ⟨t, ht, h1, h2⟩
    by_cases e : t.id = u.id
    · have := h.nd.inj ht hu e
      subst this
      exact ⟨_, List.mem_append.2 (.inr (List.mem_singleton.2 rfl)), h1, h2⟩
    · exact ⟨t, List.mem_append.2 (.inl (offN_mem.2 ⟨ht, e⟩)), h1, h2⟩
theorem kids_move_ne {Z : List Fn} (hn : NdN Z) {u : Fn} (hu : u ∈ Z) {p x : Int} (h1 : p ≠ x) (h2 : u.par ≠ x) : kidsN (moveN Z u p) x = kidsN Z x := by
  rw [moveN, kidsN_app, kidsN_one_ne h1, List.append_nil, kidsN_off_ne hn hu h2]
theorem kids_move_p {Z : List Fn} (hn : NdN Z) {u : Fn} (hu : u ∈ Z) {p : Int} (h1 : p ≠ 0) (h2 : u.par ≠ p) : kidsN (moveN Z u p) p = kidsN Z p ++ [u.id] := by
  rw [moveN, kidsN_app, kidsN_one rfl h1, kidsN_off_ne hn hu h2]
def mvN (p : Int) (Z : List Fn) (k : Int) : List Fn := match findN Z k with
  | some u => moveN Z u p
  | none => Z
def liftN (L : List Fn) (id : Int) : List Fn := match findN L id with
  | some t => (kidsN L id).foldl (mvN t.par) (offN L id)
  | none => L
def liftE (L : List Fn) (id : Int) : Int := if hasN L id then 0 else 6
structure LI (L : List Fn) (last : Int) (t : Fn) (i : Nat) (Z : List Fn) : Prop where
  eq : Z = ((kidsN L t.id).take i).foldl (mvN t.par) (offN L t.id)
  wi : WI Z last
  no : ¬ hasN Z t.id
  todo : ∀ j k, i ≤ j → (kidsN L t.id)[j]? = some k → ∃ u ∈ Z, u.id = k ∧ u.par = t.id
  len : Z.length = (offN L t.id).length
theorem LI.start {L : List Fn} {last : Int} (h : WI L last) {t : Fn} (ht : t ∈ L) : LI L last t 0 (offN L t.id) where
  eq := rfl
  wi := h.off _
  no := fun h2 => (offN_has.1 h2).2 rfl
  todo := fun j k _ hk => by
    obtain ⟨_, u, hu, h1, h2⟩ := kidsN_mem.1 (List.mem_of_getElem? hk)
    have := h.rg u hu
    exact ⟨u, offN_mem.2 ⟨hu, by omega⟩, h2, h1⟩
  len := rfl
theorem LI.next {L : List Fn} {last : Int} (h : WI L last) {t : Fn} (ht : t ∈ L) {i : Nat} {Z : List Fn} (hI : LI L last t i Z) {u : Fn} (hu : u ∈ Z) (hk : (kidsN L t.id)[i]? = some u.id) (hp : 0 ≤ t.par ∧ t.par < u.id) : LI L last t (i + 1) (moveN Z u t.par) where
  eq := by rw [List.take_add_one, hk, Option.toList, List.foldl_append, ← hI.eq, List.foldl_cons, List.foldl_nil, mvN, findN_yes hI.wi.nd hu]
  wi := hI.wi.move hu hp
  no := by rw [move_has hu]; exact hI.no
  todo := fun j k hj hk2 => by
    obtain ⟨v, hv, h1, h2⟩ := hI.todo j k (by omega) hk2
    refine ⟨v, List.mem_append.2 (.inl (offN_mem.2 ⟨hv, fun e => ?_⟩)), h1, h2⟩
    obtain ⟨a1, b1⟩ := List.getElem?_eq_some_iff.1 hk
    obtain ⟨a2, b2⟩ := List.getElem?_eq_some_iff.1 hk2
    exact (List.pairwise_iff_getElem.1 (kidsN_nd h.nd t.id)) i j a1 a2 (by omega) (by rw [b1, b2, ← h1, e])
  len := by rw [move_len hI.wi.nd hu]; exact hI.len
theorem LI.done {L : List Fn} {last : Int} (h : WI L last) {t : Fn} (ht : t ∈ L) {Z : List Fn} (hI : LI L last t (kidsN L t.id).length Z) : liftN L t.id = Z := by
  have := hI.eq
  rw [List.take_length] at this
  rw [liftN, findN_yes h.nd ht, this]

theorem fdrop1_ok (b : Nat) (id x : Int) : FSpec Try.prog 36 [.int .i64 x, .pointer (some ⟨b, 0, none⟩)] (fun F => Rd F b (.cells #[Value.int .i64 id] 3 (0, 0))) [] (fun _ : Unit => .bool (decide (x = id))) (fun _ => True) (fun _ => []) := by
  refine FSpec.intro (rs := [.tmp 3]) (by kernel_rfl) Try.func36 rfl Try.ntmps36 (by rfl) rfl ?_
  intro F hF
  change TC _ _ _ _ _ _ _ (sepL [_])
  haveI : RdI F b (.cells #[Value.int .i64 id] 3 (0, 0)) := ⟨hF⟩
  refine TC.seq ?_
  refine TC.region ?_
  refine q rfl rfl (asg (v := .bool _) rfl) ?_
  refine TL.nil (nt ?_)
  refine TC.seq ?_
  refine TC.region ?_
  refine q rfl rfl (mv (v := .int _ _) rfl) ?_
  first | refine q rfl rfl (ld rfl rfl rfl) ?_ | refine q rfl rfl (ldS rfl rfl rfl) ?_
  refine q rfl rfl (eqI rfl rfl) ?_
  refine q rfl rfl (asg (v := .bool _) rfl) ?_
  refine TL.nil (nt ?_)
  refine TC.ret ?_
  exact Ret.i () [_] ⟨rfl, trivial⟩ rfl trivial (ent_take 0 rfl (ent_nil _))

set_option maxHeartbeats 1000000 in
theorem fdrop_ok (b : Nat) (A : Int → Nat) (L : List Fn) (last : Int) (t : Fn) (ht : t ∈ L) (hl : L.length ≤ 1000000) : FSpec Try.prog 30 [.pointer (some ⟨b, 0, none⟩), .int .i64 t.id] noRd [isFa b A L last] (fun _ : Option Addr × Nat => .agg (ints [t.sp, t.sl]).toArray) (fun _ => True) (fun y => [isFa b A (offN L t.id) last, pts (A t.id) 66 [.int .i64 t.sp, .int .i64 t.sl, .int .i64 t.par, .slice y.1 (kidsN L t.id).length y.2], slc 3 1 y.1 (kidsN L t.id).length y.2 (ints (kidsN L t.id))]) := by
  refine FSpec.intro (rs := [.cell 4 44]) (by kernel_rfl) Try.func30 rfl Try.ntmps30 (by rfl) rfl ?_
  intro F _
  change TC _ _ _ _ _ _ _ (sepL [_, _])
  refine TC.seq ?_
  refine TC.region ?_
  refine e rfl ?_
  refine bx (v := .int _ _) (l := [.int _ _]) rfl rfl ?_
  intro b1
  refine e rfl ?_
  refine al (l := ints [_, _]) rfl rfl ?_
  intro b2
  refine TL.nil (nt ?_)
  refine TC.seq ?_
  refine TC.open 2 rfl (fun x0 hx0 => ?_)
  obtain ⟨ad, cap, mb, ob⟩ := x0
  have hW := hx0
  change TC _ _ _ _ _ _ _ (sepL [_, _, _, _, _, _, _, _])
  dsimp only at hW ⊢
  have hf := fN_yes (A := A) ⟨t, ht, rfl⟩
  have hol := offN_len hW.nd ht
  have hol2 : (offN L t.id).length = L.length - 1 := by omega
  have hfo : fO L (t.sp, t.sl) = some (.int .i64 t.id) := fO_yes hW.no ht
  have htr := hW.rg t ht
  obtain ⟨M, hM⟩ := perm_mem ht
  have hMn := hW.nd.perm hM.symm
  refine TC.weak (ent_openB 3 rfl hM) ?_
  refine TC.weak (ent_openB 5 rfl hM) ?_
  refine TC.draw _ [] [(0, false), (1, false), (2, false), (3, false), (4, false), (5, false), (6, false)] (by kernel_rfl) (by kernel_rfl) (ent.refl _) ?_
  refine dq rfl rfl rfl (mv rfl) ?_
  first | refine dq rfl rfl rfl (nc rfl) ?_ | refine dq rfl rfl rfl (ncF rfl) ?_ | refine dq rfl rfl rfl (ncS rfl (by first | assumption | (simp [ints_length] <;> omega))) ?_
  first | refine dq rfl rfl rfl (fa 0 rfl rfl) ?_ | refine dq rfl rfl rfl (faS 0 rfl rfl (by first | assumption | (simp [ints_length] <;> omega))) ?_
  first | refine dq rfl rfl rfl (ld rfl rfl rfl) ?_ | refine dq rfl rfl rfl (ldS rfl rfl rfl) ?_
  first | refine dq rfl rfl rfl (ld rfl rfl rfl) ?_ | refine dq rfl rfl rfl (ldS rfl rfl rfl) ?_
  refine dq rfl rfl rfl (luF 3 59 rfl rfl (KL.int rfl) rfl rfl) ?_
  refine dq rfl rfl rfl (asg rfl) ?_
  refine TD.nil (nt ?_)
  refine TC.seq ?_
  refine TC.seq ?_
  rw [hf]
  refine TC.region ?_
  refine q rfl rfl (mv (v := .pointer _) rfl) ?_
  refine q rfl rfl (mv (v := .pointer _) rfl) ?_
  first | refine q rfl rfl (nc rfl) ?_ | refine q rfl rfl (ncF rfl) ?_ | refine q rfl rfl (ncS rfl (by first | assumption | (simp [ints_length] <;> omega))) ?_
  first | refine q rfl rfl (fa 2 rfl rfl) ?_ | refine q rfl rfl (faS 2 rfl rfl (by first | assumption | (simp [ints_length] <;> omega))) ?_
  first | refine q rfl rfl (ld rfl rfl rfl) ?_ | refine q rfl rfl (ldS rfl rfl rfl) ?_
  refine e rfl ?_
  refine cl (fat_ok b mb ob L.length last (fN A L) t.par) rfl (picked_cons 4 rfl (picked_cons 4 rfl (picked_nil _))) trivial ?_
  intro _ _
  change TL _ _ _ _ _ _ _ _ (sepL [_, _, _, _, _, _, _, _, _, _])
  by_cases hp : hasN L t.par
  · obtain ⟨u, hu, hup⟩ := hp
    have hf2 : fN A L t.par = some (.pointer (some ⟨A u.id, 0, none⟩)) := by rw [← hup]; exact fN_yes ⟨u, hu, rfl⟩
    rw [hf2]
    have huM : u ∈ M := by
      rcases List.mem_cons.1 (hM.mem_iff.1 hu) with e | e
      · subst e; omega
      · exact e
    obtain ⟨M2, hM2⟩ := perm_mem huM
    have hM2n := (List.nodup_cons.1 ((hM2.map (·.id)).nodup_iff.1 (List.nodup_cons.1 hMn).2)).1
    have hkl := kidsN_len L u.id
    have hne : ∀ x ∈ M2, t.par ≠ x.id := fun x hx e => hM2n (List.mem_map.2 ⟨x, hx, by show x.id = u.id; rw [hup, e]⟩)
    have hcN : ∀ x ∈ M2, nP A ad cap L x = nP A ad cap (offN L t.id) x := fun x hx => by
      dsimp only [nP]
      rw [kidsN_off_ne hW.nd ht (hne x hx)]
    have hcK : ∀ x ∈ M2, kP ad cap L x = kP ad cap (offN L t.id) x := fun x hx => by
      dsimp only [kP]
      rw [kidsN_off_ne hW.nd ht (hne x hx)]
    have hP2 : (u :: M2).Perm (offN L t.id) := hM2.symm.trans (offN_perm hW.nd hM).symm
    refine q rfl rfl (asg (v := .pointer _) rfl) ?_
    refine TL.nil (nt ?_)
    refine TC.seq ?_
    refine TC.region ?_
    refine q rfl rfl (mv (v := .pointer _) rfl) ?_
    refine q rfl rfl (neNil rfl rfl rfl) ?_
    refine TL.nil (nt ?_)
    refine TC.condT rfl ?_
    refine TC.weak (ent_openB 5 rfl hM2) ?_
    refine TC.weak (ent_openB 5 rfl hM2) ?_
    refine TC.region ?_
    refine q rfl rfl (mv (v := .pointer _) rfl) ?_
    refine q rfl rfl (mv (v := .pointer _) rfl) ?_
    first | refine q rfl rfl (nc rfl) ?_ | refine q rfl rfl (ncF rfl) ?_ | refine q rfl rfl (ncS rfl (by first | assumption | (simp [ints_length] <;> omega))) ?_
    first | refine q rfl rfl (fa 3 rfl rfl) ?_ | refine q rfl rfl (faS 3 rfl rfl (by first | assumption | (simp [ints_length] <;> omega))) ?_
    first | refine q rfl rfl (ld rfl rfl rfl) ?_ | refine q rfl rfl (ldS rfl rfl rfl) ?_
    first | refine q rfl rfl (mkf (vf := []) (vc := [.pointer _]) rfl rfl) ?_ | refine q rfl rfl (mkf rfl rfl) ?_
    refine e rfl ?_
    refine cl (deleteI_ok (ad u.id) (cap u.id) (kidsN L u.id) 36 [.pointer (some ⟨b1, 0, none⟩)] (fun y => decide (y = t.id)) (fun F => Rd F b1 (.cells #[Value.int .i64 t.id] 3 (0, 0))) (fun y => fdrop1_ok b1 t.id y) (by omega) (fun _ h => Rd_here h) (fun _ _ h => Rd_next (Rd_here h))) rfl (picked_cons 0 rfl (picked_nil _)) RdI.rd ?_
    intro _ _
    change TL _ _ _ _ _ _ _ _ (sepL [_, _, _, _, _, _, _, _, _, _, _, _])
    rw [kidsN_del]
    first | refine q rfl rfl (nc rfl) ?_ | refine q rfl rfl (ncF rfl) ?_ | refine q rfl rfl (ncS rfl (by first | assumption | (simp [ints_length] <;> omega))) ?_
    first | refine q rfl rfl (fa 3 rfl rfl) ?_ | refine q rfl rfl (faS 3 rfl rfl (by first | assumption | (simp [ints_length] <;> omega))) ?_
    refine e0 ?_
    refine st (v := .slice _ _ _) (vs := [_]) 1 rfl rfl rfl rfl rfl rfl (Nat.le_of_ble_eq_true rfl) rfl ?_
    refine TL.nil (nt ?_)
    refine TC.seq ?_
    refine TC.draw _ [] [(0, false), (1, false), (2, false), (3, false), (4, false), (5, true)] (by kernel_rfl) (by kernel_rfl) (ent_take 4 rfl (ent_take 9 rfl (ent_nil _))) ?_
    refine dq rfl rfl rfl (mv (v := .pointer _) rfl) ?_
    first | refine dq rfl rfl rfl (nc rfl) ?_ | refine dq rfl rfl rfl (ncF rfl) ?_ | refine dq rfl rfl rfl (ncS rfl (by first | assumption | (simp [ints_length] <;> omega))) ?_
    first | refine dq rfl rfl rfl (fa 0 rfl rfl) ?_ | refine dq rfl rfl rfl (faS 0 rfl rfl (by first | assumption | (simp [ints_length] <;> omega))) ?_
    first | refine dq rfl rfl rfl (ld rfl rfl rfl) ?_ | refine dq rfl rfl rfl (ldS rfl rfl rfl) ?_
    first | refine dq rfl rfl rfl (ld rfl rfl rfl) ?_ | refine dq rfl rfl rfl (ldS rfl rfl rfl) ?_
    refine de0 rfl ?_
    refine deF 3 59 rfl (KL.int rfl) rfl rfl rfl ?_
    refine ⟨(by repeat (first | exact ent_nil _ | refine ent_take 0 rfl ?_ | refine ent_take 1 rfl ?_ | refine ent_take 2 rfl ?_ | refine ent_take 3 rfl ?_ | refine ent_take 4 rfl ?_ | refine ent_take 5 rfl ?_ | refine ent_take 6 rfl ?_ | refine ent_take 7 rfl ?_ | refine ent_take 8 rfl ?_ | refine ent_take 9 rfl ?_ | refine ent_take 10 rfl ?_ | refine ent_take 11 rfl ?_ | refine ent_take 12 rfl ?_)), ?_⟩
    refine TD.nil (nt ?_)
    refine TC.seq ?_
    refine TC.draw _ [] [(0, false), (1, false), (2, false), (3, false), (4, false), (5, false), (6, false), (7, false), (8, true)] (by kernel_rfl) (by kernel_rfl) (ent_take 5 rfl (ent_take 6 rfl (ent_nil _))) ?_
    refine dq rfl rfl rfl (mv (v := .pointer _) rfl) ?_
    first | refine dq rfl rfl rfl (nc rfl) ?_ | refine dq rfl rfl rfl (ncF rfl) ?_ | refine dq rfl rfl rfl (ncS rfl (by first | assumption | (simp [ints_length] <;> omega))) ?_
    first | refine dq rfl rfl rfl (fa 1 rfl rfl) ?_ | refine dq rfl rfl rfl (faS 1 rfl rfl (by first | assumption | (simp [ints_length] <;> omega))) ?_
    first | refine dq rfl rfl rfl (ld rfl rfl rfl) ?_ | refine dq rfl rfl rfl (ldS rfl rfl rfl) ?_
    refine dq rfl rfl rfl (mv (v := .pointer _) rfl) ?_
    first | refine dq rfl rfl rfl (nc rfl) ?_ | refine dq rfl rfl rfl (ncF rfl) ?_ | refine dq rfl rfl rfl (ncS rfl (by first | assumption | (simp [ints_length] <;> omega))) ?_
    first | refine dq rfl rfl rfl (fa 0 rfl rfl) ?_ | refine dq rfl rfl rfl (faS 0 rfl rfl (by first | assumption | (simp [ints_length] <;> omega))) ?_
    first | refine dq rfl rfl rfl (ldN (vs := ints [_, _]) 2 rfl rfl rfl rfl) ?_ | refine dq rfl rfl rfl (ldSN (vs := ints [_, _]) 2 rfl rfl rfl rfl (by decide)) ?_
    refine de0 rfl ?_
    refine deF (a := (_, _)) 44 3 rfl (KL.pair (by kernel_rfl)) rfl rfl rfl ?_
    refine ⟨(by repeat (first | exact ent_nil _ | refine ent_take 0 rfl ?_ | refine ent_take 1 rfl ?_ | refine ent_take 2 rfl ?_ | refine ent_take 3 rfl ?_ | refine ent_take 4 rfl ?_ | refine ent_take 5 rfl ?_ | refine ent_take 6 rfl ?_ | refine ent_take 7 rfl ?_ | refine ent_take 8 rfl ?_ | refine ent_take 9 rfl ?_ | refine ent_take 10 rfl ?_ | refine ent_take 11 rfl ?_ | refine ent_take 12 rfl ?_)), ?_⟩
    refine TD.nil (nt ?_)
    refine TC.seq ?_
    refine TC.region ?_
    refine q rfl rfl (mv (v := .pointer _) rfl) ?_
    first | refine q rfl rfl (nc rfl) ?_ | refine q rfl rfl (ncF rfl) ?_ | refine q rfl rfl (ncS rfl (by first | assumption | (simp [ints_length] <;> omega))) ?_
    first | refine q rfl rfl (fa 0 rfl rfl) ?_ | refine q rfl rfl (faS 0 rfl rfl (by first | assumption | (simp [ints_length] <;> omega))) ?_
    first | refine q rfl rfl (ldN (vs := ints [_, _]) 2 rfl rfl rfl rfl) ?_ | refine q rfl rfl (ldSN (vs := ints [_, _]) 2 rfl rfl rfl rfl (by decide)) ?_
    refine e0 ?_
    refine st (v := .agg (List.toArray (ints [_, _]))) (vs := ints [_, _]) 2 rfl rfl rfl rfl rfl rfl (Nat.le_of_ble_eq_true rfl) rfl ?_
    refine TL.nil (nt ?_)
    refine TC.ret ?_
    exact Ret.i ⟨ad t.id, cap t.id⟩ [_] ⟨(rcN (n := 2) rfl rfl rfl rfl), trivial⟩ rfl trivial (ent_close ⟨ad, cap, mb, ob⟩ (hW.off t.id) (ent_take 7 rfl (ent_takeE 2 rfl (by rw [fN_off, hf, hol2]; rfl) (ent_takeE 1 rfl (by rw [fO_off hW.nd hW.no ht, hfo, hol2]; rfl) (ent_closeB 1 3 u rfl rfl rfl hcN hP2 (ent_closeB 1 1 u rfl rfl rfl hcK hP2 (ent_take 2 rfl (ent_take 1 rfl (ent_take 2 rfl (ent_nil _))))))))))
  · have hf2 := fN_no (A := A) hp
    rw [hf2]
    have hcN : ∀ x ∈ M, nP A ad cap L x = nP A ad cap (offN L t.id) x := fun x hx => by
      dsimp only [nP]
      rw [kidsN_off_ne hW.nd ht (fun e => hp ⟨x, hM.mem_iff.2 (by simp [hx]), e.symm⟩)]
    have hcK : ∀ x ∈ M, kP ad cap L x = kP ad cap (offN L t.id) x := fun x hx => by
      dsimp only [kP]
      rw [kidsN_off_ne hW.nd ht (fun e => hp ⟨x, hM.mem_iff.2 (by simp [hx]), e.symm⟩)]
    have hP2 := (offN_perm hW.nd hM).symm
    refine q rfl rfl (asg (v := .pointer _) rfl) ?_
    refine TL.nil (nt ?_)
    refine TC.seq ?_
    refine TC.region ?_
    refine q rfl rfl (mv (v := .pointer _) rfl) ?_
    refine q rfl rfl (neNil rfl rfl rfl) ?_
    refine TL.nil (nt ?_)
    refine TC.condF rfl ?_
    refine TC.skip (nt ?_)
    refine TC.seq ?_
    refine TC.draw _ [] [(0, false), (1, false), (2, false), (3, false), (4, false), (5, true)] (by kernel_rfl) (by kernel_rfl) (ent_take 0 rfl (ent_take 7 rfl (ent_nil _))) ?_
    refine dq rfl rfl rfl (mv (v := .pointer _) rfl) ?_
    first | refine dq rfl rfl rfl (nc rfl) ?_ | refine dq rfl rfl rfl (ncF rfl) ?_ | refine dq rfl rfl rfl (ncS rfl (by first | assumption | (simp [ints_length] <;> omega))) ?_
    first | refine dq rfl rfl rfl (fa 0 rfl rfl) ?_ | refine dq rfl rfl rfl (faS 0 rfl rfl (by first | assumption | (simp [ints_length] <;> omega))) ?_
    first | refine dq rfl rfl rfl (ld rfl rfl rfl) ?_ | refine dq rfl rfl rfl (ldS rfl rfl rfl) ?_
    first | refine dq rfl rfl rfl (ld rfl rfl rfl) ?_ | refine dq rfl rfl rfl (ldS rfl rfl rfl) ?_
    refine de0 rfl ?_
    refine deF 3 59 rfl (KL.int rfl) rfl rfl rfl ?_
    refine ⟨(by repeat (first | exact ent_nil _ | refine ent_take 0 rfl ?_ | refine ent_take 1 rfl ?_ | refine ent_take 2 rfl ?_ | refine ent_take 3 rfl ?_ | refine ent_take 4 rfl ?_ | refine ent_take 5 rfl ?_ | refine ent_take 6 rfl ?_ | refine ent_take 7 rfl ?_ | refine ent_take 8 rfl ?_ | refine ent_take 9 rfl ?_ | refine ent_take 10 rfl ?_ | refine ent_take 11 rfl ?_ | refine ent_take 12 rfl ?_)), ?_⟩
    refine TD.nil (nt ?_)
    refine TC.seq ?_
    refine TC.draw _ [] [(0, false), (1, false), (2, false), (3, false), (4, false), (5, false), (6, false), (7, false), (8, true)] (by kernel_rfl) (by kernel_rfl) (ent_take 1 rfl (ent_take 3 rfl (ent_nil _))) ?_
    refine dq rfl rfl rfl (mv (v := .pointer _) rfl) ?_
    first | refine dq rfl rfl rfl (nc rfl) ?_ | refine dq rfl rfl rfl (ncF rfl) ?_ | refine dq rfl rfl rfl (ncS rfl (by first | assumption | (simp [ints_length] <;> omega))) ?_
    first | refine dq rfl rfl rfl (fa 1 rfl rfl) ?_ | refine dq rfl rfl rfl (faS 1 rfl rfl (by first | assumption | (simp [ints_length] <;> omega))) ?_
    first | refine dq rfl rfl rfl (ld rfl rfl rfl) ?_ | refine dq rfl rfl rfl (ldS rfl rfl rfl) ?_
    refine dq rfl rfl rfl (mv (v := .pointer _) rfl) ?_
    first | refine dq rfl rfl rfl (nc rfl) ?_ | refine dq rfl rfl rfl (ncF rfl) ?_ | refine dq rfl rfl rfl (ncS rfl (by first | assumption | (simp [ints_length] <;> omega))) ?_
    first | refine dq rfl rfl rfl (fa 0 rfl rfl) ?_ | refine dq rfl rfl rfl (faS 0 rfl rfl (by first | assumption | (simp [ints_length] <;> omega))) ?_
    first | refine dq rfl rfl rfl (ldN (vs := ints [_, _]) 2 rfl rfl rfl rfl) ?_ | refine dq rfl rfl rfl (ldSN (vs := ints [_, _]) 2 rfl rfl rfl rfl (by decide)) ?_
    refine de0 rfl ?_
    refine deF (a := (_, _)) 44 3 rfl (KL.pair (by kernel_rfl)) rfl rfl rfl ?_
    refine ⟨(by repeat (first | exact ent_nil _ | refine ent_take 0 rfl ?_ | refine ent_take 1 rfl ?_ | refine ent_take 2 rfl ?_ | refine ent_take 3 rfl ?_ | refine ent_take 4 rfl ?_ | refine ent_take 5 rfl ?_ | refine ent_take 6 rfl ?_ | refine ent_take 7 rfl ?_ | refine ent_take 8 rfl ?_ | refine ent_take 9 rfl ?_ | refine ent_take 10 rfl ?_ | refine ent_take 11 rfl ?_ | refine ent_take 12 rfl ?_)), ?_⟩
    refine TD.nil (nt ?_)
    refine TC.seq ?_
    refine TC.region ?_
    refine q rfl rfl (mv (v := .pointer _) rfl) ?_
    first | refine q rfl rfl (nc rfl) ?_ | refine q rfl rfl (ncF rfl) ?_ | refine q rfl rfl (ncS rfl (by first | assumption | (simp [ints_length] <;> omega))) ?_
    first | refine q rfl rfl (fa 0 rfl rfl) ?_ | refine q rfl rfl (faS 0 rfl rfl (by first | assumption | (simp [ints_length] <;> omega))) ?_
    first | refine q rfl rfl (ldN (vs := ints [_, _]) 2 rfl rfl rfl rfl) ?_ | refine q rfl rfl (ldSN (vs := ints [_, _]) 2 rfl rfl rfl rfl (by decide)) ?_
    refine e0 ?_
    refine st (v := .agg (List.toArray (ints [_, _]))) (vs := ints [_, _]) 2 rfl rfl rfl rfl rfl rfl (Nat.le_of_ble_eq_true rfl) rfl ?_
    refine TL.nil (nt ?_)
    refine TC.ret ?_
    exact Ret.i ⟨ad t.id, cap t.id⟩ [_] ⟨(rcN (n := 2) rfl rfl rfl rfl), trivial⟩ rfl trivial (ent_close ⟨ad, cap, mb, ob⟩ (hW.off t.id) (ent_take 3 rfl (ent_takeE 2 rfl (by rw [fN_off, hf, hol2]; rfl) (ent_takeE 1 rfl (by rw [fO_off hW.nd hW.no ht, hfo, hol2]; rfl) (ent_takeB 4 rfl hcN hP2 (ent_takeB 2 rfl hcK hP2 (ent_take 2 rfl (ent_take 1 rfl (ent_take 2 rfl (ent_nil _))))))))))

set_option maxHeartbeats 1000000 in
theorem fcut_ok (b : Nat) (L : List Fn) (last : Int) (id : Int) (hl : L.length ≤ 1000000) : FSpec Try.prog 17 [.pointer (some ⟨b, 0, none⟩), .int .i64 id] noRd [isF b L last] (fun y : Option Addr × Nat => .slice y.1 (cutS L last id).length y.2) (fun _ => True) (fun y => [slc 44 2 y.1 (cutS L last id).length y.2 (spsC (cutS L last id)), isF b (cutN L last id) last]) := by
  refine FSpec.intro (rs := [.tmp 4]) (by kernel_rfl) Try.func17 rfl Try.ntmps17 (by rfl) rfl ?_
  intro F _
  change TC _ _ _ _ _ _ _ (sepL [_, _])
  refine TC.open 0 rfl (fun A _ => ?_)
  change TC _ _ _ _ _ _ _ (sepL [_, _])
  refine TC.open 0 rfl (fun x0 hx0 => ?_)
  obtain ⟨ad, cap, mb, ob⟩ := x0
  have hW := hx0
  change TC _ _ _ _ _ _ _ (sepL [_, _, _, _, _, _])
  dsimp only at hW ⊢
  refine TC.weak (B := sepL [isF b L last, F]) (ent_close A trivial (ent_close ⟨ad, cap, mb, ob⟩ hW (ent_take 0 rfl (ent_take 0 rfl (ent_take 0 rfl (ent_take 0 rfl (ent_take 0 rfl (ent_take 0 rfl (ent_nil _))))))))) ?_
  have hbl := belR_len hW id
  have hbi := ints_length (belR L last id)
  have hcl : (cutS L last id).length = (belR L last id).length := by rw [cutS, List.length_map]
  refine TC.seq ?_
  refine TC.region ?_
  refine q rfl rfl (asg (v := .slice _ _ _) rfl) ?_
  refine TL.nil (nt ?_)
  refine TC.seq ?_
  refine TC.region ?_
  refine q rfl rfl (asg (v := .slice _ _ _) rfl) ?_
  refine TL.nil (nt ?_)
  refine TC.seq ?_
  refine TC.seq ?_
  refine TC.region ?_
  refine q rfl rfl (mv (v := .pointer _) rfl) ?_
  refine q rfl rfl (mv (v := .int _ _) rfl) ?_
  refine e rfl ?_
  refine cl (fbelow_ok b L last id hl) rfl (picked_cons 0 rfl (picked_nil _)) trivial ?_
  intro y _
  change TL _ _ _ _ _ _ _ _ (sepL [_, _, _])
  generalize hB : belR L last id = B at hbl hbi hcl ⊢
  refine q rfl rfl (len 3 1 rfl rfl) ?_
  refine q rfl rfl (mv (v := .int _ _) rfl) ?_
  refine TL.nil (nt ?_)
  refine TC.block ?_
  refine TC.loop (ι := Nat × (Option Addr × Nat)) (fun s => s.1 ≤ B.length) (fun s => [(0, .pointer (some ⟨b, 0, none⟩)), (5, .slice s.2.1 s.1 s.2.2), (10, .slice y.1 B.length y.2), (11, .int .i64 B.length), (12, .int .i64 ((s.1 : Nat) : Int))]) (fun s => sepL [slc 44 2 s.2.1 s.1 s.2.2 (spsC ((B.take s.1).map (spotN L))), slc 3 1 y.1 B.length y.2 (ints B), isF b (offL L (B.take s.1)) last, F]) (fun s => B.length - s.1) ⟨0, (none, 0)⟩ (Nat.zero_le _) ⟨rfl, rfl, rfl, rfl, rfl, trivial⟩ ((slc_nil 44 2 _).trans (ent_take 0 rfl (ent_take 0 rfl (ent_take 0 rfl (ent_take 0 rfl (ent_nil _)))))) ?_
  rintro ⟨i, ⟨oa, oc⟩⟩ hi ρ0
  dsimp only [updL] at hi ⊢
  refine TC.seq ?_
  refine TC.region ?_
  refine q rfl rfl (lss rfl rfl) ?_
  refine TL.nil (nt ?_)
  refine TC.seq ?_
  first | refine TC.condD rfl (fun hlt => ?_) (fun hlt => ?_) | refine TC.cond rfl (fun hlt => ?_) (fun hlt => ?_)
  · have hlt2 : i < B.length := by omega
    obtain ⟨x, hx⟩ : ∃ x, B[i]? = some x := ⟨B[i], List.getElem?_eq_getElem hlt2⟩
    have hpos : 0 < (ints B).length := by omega
    obtain ⟨t, ht, hxe, ht2⟩ := cut_next hW (p := id) (i := i) (x := x) (by rw [hB]; exact hx)
    subst hxe
    rw [hB] at ht2
    obtain ⟨e1, e2⟩ := cut_step hW.nd ht hx
    have hol := offL_len L (B.take i)
    refine TC.open 2 rfl (fun A _ => ?_)
    change TC _ _ _ _ _ _ _ (sepL [_, _, _, _])
    refine TC.skip (nt ?_)
    refine TC.seq ?_
    refine TC.block ?_
    refine TC.seq ?_
    refine TC.region ?_
    first | refine q rfl rfl (ixS 3 1 rfl rfl rfl (by omega) (by first | assumption | (simp [ints_length] <;> omega))) ?_ | refine q rfl rfl (ixJ 3 1 rfl rfl rfl (by omega) (by omega) (by first | assumption | (simp [ints_length] <;> omega))) ?_ | refine q rfl rfl (ix 3 1 rfl rfl rfl (by omega) (by omega) rfl) ?_
    first | refine q rfl rfl (ld rfl rfl rfl) ?_ | refine q rfl rfl (ldS rfl rfl (ints_get hx)) ?_ | refine q rfl rfl (ldS rfl rfl rfl) ?_
    refine q rfl rfl (asg (v := .int _ _) rfl) ?_
    refine TL.nil (nt ?_)
    refine TC.region ?_
    refine q rfl rfl (mv (v := .slice _ _ _) rfl) ?_
    refine q rfl rfl (mv (v := .pointer _) rfl) ?_
    refine q rfl rfl (mv (v := .int _ _) rfl) ?_
    refine e rfl ?_
    refine cl (fdrop_ok b A (offL L (B.take i)) last t ht2 (by omega)) rfl (picked_cons 0 rfl (picked_nil _)) trivial ?_
    intro z _
    change TL _ _ _ _ _ _ _ _ (sepL [_, _, _, _, _, _])
    rw [e1]
    refine e rfl ?_
    refine bs (cs := ints [_, _]) rfl ?_
    intro b3
    refine e rfl ?_
    refine ap 16 rfl rfl rfl rfl rfl (Nat.le_of_ble_eq_true rfl) (show _ = spsC [spN t] from rfl) rfl (by omega) (by simp only [maxLen]; omega) ?_
    intro ad1 cap1
    refine q rfl rfl (asg (v := .slice _ _ _) rfl) ?_
    refine TL.nil (nb (nt ?_))
    refine TC.region ?_
    first | refine q rfl rfl (addI rfl rfl (by omega) (by omega)) ?_ | refine q rfl rfl (add rfl rfl rfl) ?_
    refine q rfl rfl (mv (v := .int _ _) rfl) ?_
    refine TL.nil (nt ?_)
    exact ⟨rfl, ⟨i + 1, (ad1, cap1)⟩, (by dsimp only; omega), (by dsimp only; omega), ⟨rfl, rfl, rfl, rfl, rfl, trivial⟩, (ent_takeE 0 rfl (by dsimp only; rw [e2]) (ent_take 4 rfl (ent_close A trivial (ent_take 1 rfl (ent_take 3 rfl (ent_nil _))))))⟩
  · obtain rfl : i = B.length := by omega
    rw [List.take_length]
    have hcn : cutN L last id = offL L B := by rw [cutN, hB]
    have hcs : cutS L last id = B.map (spotN L) := by rw [cutS, hB]
    rw [hcn, hcs, List.length_map]
    refine TC.exit (et (et (eb (nt ?_))))
    refine TC.seq ?_
    refine TC.region ?_
    refine q rfl rfl (mv (v := .slice _ _ _) rfl) ?_
    refine q rfl rfl (asg (v := .slice _ _ _) rfl) ?_
    refine TL.nil (nt ?_)
    refine TC.ret ?_
    exact Ret.i ⟨oa, oc⟩ [_] ⟨rfl, trivial⟩ rfl trivial (ent_take 0 rfl (ent_take 1 rfl (ent_take 1 rfl (ent_nil _))))

theorem fcut_nil (id : Int) : FSpec Try.prog 17 [.pointer none, .int .i64 id] noRd [] (fun _ : Unit => .slice none 0 0) (fun _ => True) (fun _ => []) := by
  refine FSpec.intro (rs := [.tmp 4]) (by kernel_rfl) Try.func17 rfl Try.ntmps17 (by rfl) rfl ?_
  intro F _
  change TC _ _ _ _ _ _ _ (sepL [_])
  refine TC.seq ?_
  refine TC.region ?_
  refine q rfl rfl (asg (v := .slice _ _ _) rfl) ?_
  refine TL.nil (nt ?_)
  refine TC.seq ?_
  refine TC.region ?_
  refine q rfl rfl (asg (v := .slice _ _ _) rfl) ?_
  refine TL.nil (nt ?_)
  refine TC.seq ?_
  refine TC.seq ?_
  refine TC.region ?_
  refine q rfl rfl (mv (v := .pointer _) rfl) ?_
  refine q rfl rfl (mv (v := .int _ _) rfl) ?_
  refine e rfl ?_
  refine cl (fbelow_nil id) rfl (picked_nil _) trivial ?_
  intro _ _
  change TL _ _ _ _ _ _ _ _ (sepL [_])
  refine q rfl rfl (len 3 1 rfl rfl) ?_
  refine q rfl rfl (mv (v := .int _ _) rfl) ?_
  refine TL.nil (nt ?_)
  refine TC.block ?_
  refine TC.loop (ι := Unit) (fun s => True) (fun s => [(0, .pointer none), (5, .slice none 0 0), (11, .int .i64 0), (12, .int .i64 0)]) (fun s => sepL [F]) (fun s => 0) () trivial ⟨rfl, rfl, rfl, rfl, trivial⟩ (ent_take 0 rfl (ent_nil _)) ?_
  rintro _ _ ρ0
  dsimp only [updL]
  refine TC.seq ?_
  refine TC.region ?_
  refine q rfl rfl (lss rfl rfl) ?_
  refine TL.nil (nt ?_)
  refine TC.seq ?_
  refine TC.condD rfl (fun hc1 => absurd hc1 (by decide)) (fun hc1 => ?_)
  refine TC.exit (et (et (eb (nt ?_))))
  refine TC.seq ?_
  refine TC.region ?_
  refine q rfl rfl (mv (v := .slice _ _ _) rfl) ?_
  refine q rfl rfl (asg (v := .slice _ _ _) rfl) ?_
  refine TL.nil (nt ?_)
  refine TC.ret ?_
  exact Ret.i () [_] ⟨rfl, trivial⟩ rfl trivial (ent_take 0 rfl (ent_nil _))

set_option maxHeartbeats 1000000 in
theorem frem_ok (b : Nat) (L : List Fn) (last : Int) (id : Int) (hl : L.length ≤ 1000000) : FSpec Try.prog 18 [.pointer (some ⟨b, 0, none⟩), .int .i64 id] noRd [isF b L last] (fun y : Option Addr × Nat => .slice y.1 (remS L last id).length y.2) (fun _ => True) (fun y => [slc 44 2 y.1 (remS L last id).length y.2 (spsC (remS L last id)), isF b (remN L last id) last]) := by
  refine FSpec.intro (rs := [.tmp 4]) (by kernel_rfl) Try.func18 rfl Try.ntmps18 (by rfl) rfl ?_
  intro F _
  change TC _ _ _ _ _ _ _ (sepL [_, _])
  refine TC.open 0 rfl (fun A _ => ?_)
  change TC _ _ _ _ _ _ _ (sepL [_, _])
  refine TC.open 0 rfl (fun x0 hx0 => ?_)
  obtain ⟨ad, cap, mb, ob⟩ := x0
  have hW := hx0
  change TC _ _ _ _ _ _ _ (sepL [_, _, _, _, _, _])
  dsimp only at hW ⊢
  refine TC.weak (B := sepL [isF b L last, F]) (ent_close A trivial (ent_close ⟨ad, cap, mb, ob⟩ hW (ent_take 0 rfl (ent_take 0 rfl (ent_take 0 rfl (ent_take 0 rfl (ent_take 0 rfl (ent_take 0 rfl (ent_nil _))))))))) ?_
  have hbl := belR_len hW id
  have hcl : (cutS L last id).length = (belR L last id).length := by rw [cutS, List.length_map]
  have hsl := spsC_length (cutS L last id)
  have hcs := cut_self hW id
  have hnl : (cutN L last id).length ≤ L.length := offL_len _ _
  have hW1 := hW
  refine TC.seq ?_
  refine TC.region ?_
  refine q rfl rfl (asg (v := .slice _ _ _) rfl) ?_
  refine TL.nil (nt ?_)
  refine TC.seq ?_
  refine TC.region ?_
  refine q rfl rfl (mv (v := .pointer _) rfl) ?_
  refine q rfl rfl (mv (v := .int _ _) rfl) ?_
  refine e rfl ?_
  refine cl (fcut_ok b L last id hl) rfl (picked_cons 0 rfl (picked_nil _)) trivial ?_
  intro y _
  change TL _ _ _ _ _ _ _ _ (sepL [_, _, _])
  refine q rfl rfl (asg (v := .slice _ _ _) rfl) ?_
  refine TL.nil (nt ?_)
  refine TC.seq ?_
  refine TC.seq ?_
  refine TC.open 1 rfl (fun A _ => ?_)
  change TC _ _ _ _ _ _ _ (sepL [_, _, _])
  refine TC.open 0 rfl (fun x0 hx0 => ?_)
  obtain ⟨ad, cap, mb, ob⟩ := x0
  have hW := hx0
  change TC _ _ _ _ _ _ _ (sepL [_, _, _, _, _, _, _])
  dsimp only at hW ⊢
  refine TC.region ?_
  refine q rfl rfl (mv (v := .pointer _) rfl) ?_
  refine q rfl rfl (mv (v := .int _ _) rfl) ?_
  refine e rfl ?_
  refine cl (fat_ok b mb ob (cutN L last id).length last (fN A (cutN L last id)) id) rfl (picked_cons 0 rfl (picked_cons 0 rfl (picked_nil _))) trivial ?_
  intro _ _
  change TL _ _ _ _ _ _ _ _ (sepL [_, _, _, _, _, _, _])
  by_cases hy : hasN L id
  · rw [fN_yes (A := A) (hcs.2 hy)]
    have hv1 : remS L last id = cutS L last id ++ [spotN L id] := if_pos hy
    have hv2 : remN L last id = offN (cutN L last id) id := if_pos hy
    rw [hv1, hv2]
    obtain ⟨t, ht, rfl⟩ := hcs.2 hy
    have htL := (offL_mem.1 ht).1
    rw [spotN_yes hW1.nd htL]
    refine q rfl rfl (neNil rfl rfl rfl) ?_
    refine TL.nil (nt ?_)
    refine TC.condT rfl ?_
    refine TC.weak (B := sepL [isFa b A (cutN L last t.id) last, slc 44 2 y.1 (cutS L last t.id).length y.2 (spsC (cutS L last t.id)), F]) (ent_close ⟨ad, cap, mb, ob⟩ hW (ent_take 0 rfl (ent_take 0 rfl (ent_take 0 rfl (ent_take 0 rfl (ent_take 0 rfl (ent_take 0 rfl (ent_take 0 rfl (ent_nil _))))))))) ?_
    refine TC.region ?_
    refine q rfl rfl (mv (v := .slice _ _ _) rfl) ?_
    refine q rfl rfl (mv (v := .pointer _) rfl) ?_
    refine q rfl rfl (mv (v := .int _ _) rfl) ?_
    refine e rfl ?_
    refine cl (fdrop_ok b A (cutN L last t.id) last t ht (by omega)) rfl (picked_cons 0 rfl (picked_nil _)) trivial ?_
    intro z _
    change TL _ _ _ _ _ _ _ _ (sepL [_, _, _, _, _])
    refine e rfl ?_
    refine bs (cs := ints [_, _]) rfl ?_
    intro b4
    refine e rfl ?_
    refine ap 16 rfl rfl rfl rfl rfl (Nat.le_of_ble_eq_true rfl) (show _ = spsC [spN t] from rfl) rfl (by omega) (by simp only [maxLen]; omega) ?_
    intro ad2 cap2
    refine q rfl rfl (asg (v := .slice _ _ _) rfl) ?_
    refine TL.nil (nt ?_)
    refine TC.seq ?_
    refine TC.region ?_
    refine q rfl rfl (mv (v := .slice _ _ _) rfl) ?_
    refine q rfl rfl (asg (v := .slice _ _ _) rfl) ?_
    refine TL.nil (nt ?_)
    refine TC.ret ?_
    exact Ret.i ⟨ad2, cap2⟩ [_] ⟨rfl, trivial⟩ (by rw [List.length_append]; rfl) trivial (ent_takeE 0 rfl (by rw [List.length_append, sps_app]; rfl) (ent_close A trivial (ent_take 1 rfl (ent_take 3 rfl (ent_nil _)))))
  · rw [fN_no (A := A) (fun h => hy (hcs.1 h))]
    have hv1 : remS L last id = cutS L last id := if_neg hy
    have hv2 : remN L last id = cutN L last id := if_neg hy
    rw [hv1, hv2]
    refine q rfl rfl (neNil rfl rfl rfl) ?_
    refine TL.nil (nt ?_)
    refine TC.condF rfl ?_
    refine TC.skip (nt ?_)
    refine TC.seq ?_
    refine TC.region ?_
    refine q rfl rfl (mv (v := .slice _ _ _) rfl) ?_
    refine q rfl rfl (asg (v := .slice _ _ _) rfl) ?_
    refine TL.nil (nt ?_)
    refine TC.ret ?_
    exact Ret.i y [_] ⟨rfl, trivial⟩ rfl trivial (ent_take 5 rfl (ent_close A trivial (ent_close ⟨ad, cap, mb, ob⟩ hW (ent_take 0 rfl (ent_take 0 rfl (ent_take 0 rfl (ent_take 0 rfl (ent_take 0 rfl (ent_take 0 rfl (ent_nil _))))))))))

theorem frem_nil (id : Int) : FSpec Try.prog 18 [.pointer none, .int .i64 id] noRd [] (fun _ : Unit => .slice none 0 0) (fun _ => True) (fun _ => []) := by
  refine FSpec.intro (rs := [.tmp 4]) (by kernel_rfl) Try.func18 rfl Try.ntmps18 (by rfl) rfl ?_
  intro F _
  change TC _ _ _ _ _ _ _ (sepL [_])
  refine TC.seq ?_
  refine TC.region ?_
  refine q rfl rfl (asg (v := .slice _ _ _) rfl) ?_
  refine TL.nil (nt ?_)
  refine TC.seq ?_
  refine TC.region ?_
  refine q rfl rfl (mv (v := .pointer _) rfl) ?_
  refine q rfl rfl (mv (v := .int _ _) rfl) ?_
  refine e rfl ?_
  refine cl (fcut_nil id) rfl (picked_nil _) trivial ?_
  intro _ _
  change TL _ _ _ _ _ _ _ _ (sepL [_])
  refine q rfl rfl (asg (v := .slice _ _ _) rfl) ?_
  refine TL.nil (nt ?_)
  refine TC.seq ?_
  refine TC.seq ?_
  refine TC.region ?_
  refine q rfl rfl (mv (v := .pointer _) rfl) ?_
  refine q rfl rfl (mv (v := .int _ _) rfl) ?_
  refine e rfl ?_
  refine cl (fat_nil id) rfl (picked_nil _) trivial ?_
  intro _ _
  change TL _ _ _ _ _ _ _ _ (sepL [_])
  refine q rfl rfl (neNil rfl rfl rfl) ?_
  refine TL.nil (nt ?_)
  refine TC.condF rfl ?_
  refine TC.skip (nt ?_)
  refine TC.seq ?_
  refine TC.region ?_
  refine q rfl rfl (mv (v := .slice _ _ _) rfl) ?_
  refine q rfl rfl (asg (v := .slice _ _ _) rfl) ?_
  refine TL.nil (nt ?_)
  refine TC.ret ?_
  exact Ret.i () [_] ⟨rfl, trivial⟩ rfl trivial (ent_take 0 rfl (ent_nil _))

set_option maxHeartbeats 1000000 in
theorem flift_ok (b : Nat) (L : List Fn) (last : Int) (id : Int) (hl : L.length ≤ 1000000) : FSpec Try.prog 11 [.pointer (some ⟨b, 0, none⟩), .int .i64 id] noRd [isF b L last] (fun _ : Unit => .int .i64 (liftE L id)) (fun _ => True) (fun _ => [isF b (liftN L id) last]) := by
  refine FSpec.intro (rs := [.tmp 4]) (by kernel_rfl) Try.func11 rfl Try.ntmps11 (by rfl) rfl ?_
  intro F _
  change TC _ _ _ _ _ _ _ (sepL [_, _])
  refine TC.open 0 rfl (fun A _ => ?_)
  change TC _ _ _ _ _ _ _ (sepL [_, _])
  refine TC.open 0 rfl (fun x0 hx0 => ?_)
  obtain ⟨ad, cap, mb, ob⟩ := x0
  have hW := hx0
  change TC _ _ _ _ _ _ _ (sepL [_, _, _, _, _, _])
  dsimp only at hW ⊢
  by_cases hy : hasN L id
  · have hf := fN_yes (A := A) hy
    have hv1 : liftE L id = 0 := if_pos hy
    rw [hv1]
    obtain ⟨t, ht, rfl⟩ := hy
    refine TC.seq ?_
    refine TC.region ?_
    refine q rfl rfl (asg (v := .int _ _) rfl) ?_
    refine TL.nil (nt ?_)
    refine TC.seq ?_
    refine TC.region ?_
    refine q rfl rfl (mv (v := .pointer _) rfl) ?_
    refine q rfl rfl (mv (v := .int _ _) rfl) ?_
    refine e rfl ?_
    refine cl (fat_ok b mb ob L.length last (fN A L) t.id) rfl (picked_cons 0 rfl (picked_cons 0 rfl (picked_nil _))) trivial ?_
    intro _ _
    change TL _ _ _ _ _ _ _ _ (sepL [_, _, _, _, _, _])
    rw [hf]
    refine q rfl rfl (asg (v := .pointer _) rfl) ?_
    refine TL.nil (nt ?_)
    refine TC.seq ?_
    refine TC.block ?_
    refine TC.seq ?_
    refine TC.region ?_
    refine q rfl rfl (mv (v := .pointer _) rfl) ?_
    refine q rfl rfl (eqNil rfl rfl rfl) ?_
    refine q rfl rfl (asg (v := .bool _) rfl) ?_
    refine TL.nil (nt ?_)
    refine TC.condF rfl ?_
    refine TC.seq ?_
    refine TC.region ?_
    refine q rfl rfl (mv (v := .pointer _) rfl) ?_
    refine q rfl rfl (eqNil rfl rfl rfl) ?_
    refine q rfl rfl (asg (v := .bool _) rfl) ?_
    refine TL.nil (nt ?_)
    refine TC.condF rfl ?_
    refine TC.skip (nb (nt ?_))
    refine TC.seq ?_
    refine TC.weak (B := sepL [isFa b A L last, F]) (ent_close ⟨ad, cap, mb, ob⟩ hW (ent_take 0 rfl (ent_take 0 rfl (ent_take 0 rfl (ent_take 0 rfl (ent_take 0 rfl (ent_take 0 rfl (ent_nil _)))))))) ?_
    refine TC.region ?_
    refine q rfl rfl (mv (v := .pointer _) rfl) ?_
    refine q rfl rfl (mv (v := .int _ _) rfl) ?_
    refine e rfl ?_
    refine cl (fdrop_ok b A L last t ht (by omega)) rfl (picked_cons 0 rfl (picked_nil _)) trivial ?_
    intro y _
    change TL _ _ _ _ _ _ _ _ (sepL [_, _, _, _])
    refine TL.nil (nt ?_)
    refine TC.seq ?_
    refine TC.seq ?_
    refine TC.region ?_
    refine q rfl rfl (mv (v := .pointer _) rfl) ?_
    first | refine q rfl rfl (nc rfl) ?_ | refine q rfl rfl (ncF rfl) ?_ | refine q rfl rfl (ncS rfl (by first | assumption | (simp [ints_length] <;> omega))) ?_
    first | refine q rfl rfl (fa 3 rfl rfl) ?_ | refine q rfl rfl (faS 3 rfl rfl (by first | assumption | (simp [ints_length] <;> omega))) ?_
    first | refine q rfl rfl (ld rfl rfl rfl) ?_ | refine q rfl rfl (ldS rfl rfl rfl) ?_
    refine q rfl rfl (len 3 1 rfl rfl) ?_
    refine q rfl rfl (mv (v := .int _ _) rfl) ?_
    refine TL.nil (nt ?_)
    refine TC.block ?_
    clear hf
    have hW0 := hW
    clear hW
    have htr := hW0.rg t ht
    have hol := offN_len hW0.nd ht
    have hkl := kidsN_len L t.id
    have hki := ints_length (kidsN L t.id)
    refine TC.loop (ι := Nat × List Fn) (fun s => LI L last t s.1 s.2 ∧ s.1 ≤ (kidsN L t.id).length) (fun s => [(0, .pointer (some ⟨b, 0, none⟩)), (5, .pointer (some ⟨(A t.id), 0, none⟩)), (24, .slice y.1 (kidsN L t.id).length y.2), (25, .int .i64 (kidsN L t.id).length), (26, .int .i64 ((s.1 : Nat) : Int))]) (fun s => sepL [isFa b A s.2 last, pts (A t.id) 66 [.int .i64 t.sp, .int .i64 t.sl, .int .i64 t.par, .slice y.1 (kidsN L t.id).length y.2], slc 3 1 y.1 (kidsN L t.id).length y.2 (ints (kidsN L t.id)), F]) (fun s => (kidsN L t.id).length - s.1) ⟨0, offN L t.id⟩ ⟨LI.start hW0 ht, Nat.zero_le _⟩ ⟨rfl, rfl, rfl, rfl, rfl, trivial⟩ (ent_take 0 rfl (ent_take 0 rfl (ent_take 0 rfl (ent_take 0 rfl (ent_nil _))))) ?_
    rintro ⟨i, Z⟩ ⟨hI, hi⟩ ρ0
    dsimp only [updL] at hI hi ⊢
    refine TC.seq ?_
    refine TC.region ?_
    refine q rfl rfl (lss rfl rfl) ?_
    refine TL.nil (nt ?_)
    refine TC.seq ?_
    first | refine TC.condD rfl (fun hlt => ?_) (fun hlt => ?_) | refine TC.cond rfl (fun hlt => ?_) (fun hlt => ?_)
    · obtain ⟨k, hk⟩ : ∃ k, (kidsN L t.id)[i]? = some k := ⟨_, List.getElem?_eq_getElem (show i < (kidsN L t.id).length by omega)⟩
      have hpos : 0 < (ints (kidsN L t.id)).length := by omega
      obtain ⟨u, hu, huk, hup⟩ := hI.todo i k (Nat.le_refl _) hk
      subst huk
      have hur := hI.wi.rg u hu
      have hpp : 0 ≤ t.par ∧ t.par < u.id := by omega
      have hIn := hI.next hW0 ht hu hk hpp
      obtain ⟨M, hM⟩ := perm_mem hu
      have hMn := hI.wi.nd.perm hM.symm
      have hf := fN_yes (A := A) ⟨u, hu, rfl⟩
      have hml := move_len hI.wi.nd hu t.par
      have hzl := hI.len
      have hni : ∀ x ∈ Z, u.par ≠ x.id := fun x hx e => hI.no ⟨x, hx, by rw [← e, hup]⟩
      have hPm := move_perm hI.wi.nd hM t.par
      have hku : kidsN (moveN Z u t.par) u.id = kidsN Z u.id := kids_move_ne hI.wi.nd hu (by omega) (by omega)
      refine TC.skip (nt ?_)
      refine TC.seq ?_
      refine TC.block ?_
      refine TC.seq ?_
      refine TC.region ?_
      first | refine q rfl rfl (ixS 3 1 rfl rfl rfl (by omega) (by first | assumption | (simp [ints_length] <;> omega))) ?_ | refine q rfl rfl (ixJ 3 1 rfl rfl rfl (by omega) (by omega) (by first | assumption | (simp [ints_length] <;> omega))) ?_ | refine q rfl rfl (ix 3 1 rfl rfl rfl (by omega) (by omega) rfl) ?_
      first | refine q rfl rfl (ld rfl rfl rfl) ?_ | refine q rfl rfl (ldS rfl rfl (ints_get hk)) ?_ | refine q rfl rfl (ldS rfl rfl rfl) ?_
      refine q rfl rfl (asg (v := .int _ _) rfl) ?_
      refine TL.nil (nt ?_)
      refine TC.seq ?_
      refine TC.open 0 rfl (fun x0 hx0 => ?_)
      obtain ⟨ad, cap, mb, ob⟩ := x0
      have hW := hx0
      change TC _ _ _ _ _ _ _ (sepL [_, _, _, _, _, _, _, _])
      dsimp only at hW ⊢
      refine TC.weak (ent_openB 3 rfl hM) ?_
      refine TC.weak (ent_openB 5 rfl hM) ?_
      refine TC.draw _ [12] [(0, false), (1, false), (2, false), (3, false), (4, false), (5, false), (6, false), (7, false), (8, false), (9, false), (10, false), (11, false), (12, true)] (by kernel_rfl) (by kernel_rfl) (ent.refl _) ?_
      refine dq rfl rfl rfl (mv (v := .pointer _) rfl) ?_
      first | refine dq rfl rfl rfl (nc rfl) ?_ | refine dq rfl rfl rfl (ncF rfl) ?_ | refine dq rfl rfl rfl (ncS rfl (by first | assumption | (simp [ints_length] <;> omega))) ?_
      first | refine dq rfl rfl rfl (fa 0 rfl rfl) ?_ | refine dq rfl rfl rfl (faS 0 rfl rfl (by first | assumption | (simp [ints_length] <;> omega))) ?_
      first | refine dq rfl rfl rfl (ld rfl rfl rfl) ?_ | refine dq rfl rfl rfl (ldS rfl rfl rfl) ?_
      refine dq rfl rfl rfl (mv (v := .int _ _) rfl) ?_
      refine dq rfl rfl rfl (luF 3 59 rfl rfl (KL.int rfl) rfl rfl) ?_
      rw [hf]
      refine dq rfl rfl rfl (mv (v := .pointer _) rfl) ?_
      first | refine dq rfl rfl rfl (nc rfl) ?_ | refine dq rfl rfl rfl (ncF rfl) ?_ | refine dq rfl rfl rfl (ncS rfl (by first | assumption | (simp [ints_length] <;> omega))) ?_
      first | refine dq rfl rfl rfl (fa 2 rfl rfl) ?_ | refine dq rfl rfl rfl (faS 2 rfl rfl (by first | assumption | (simp [ints_length] <;> omega))) ?_
      first | refine dq rfl rfl rfl (ld rfl rfl rfl) ?_ | refine dq rfl rfl rfl (ldS rfl rfl rfl) ?_
      first | refine dq rfl rfl rfl (nc rfl) ?_ | refine dq rfl rfl rfl (ncF rfl) ?_ | refine dq rfl rfl rfl (ncS rfl (by first | assumption | (simp [ints_length] <;> omega))) ?_
      first | refine dq rfl rfl rfl (fa 2 rfl rfl) ?_ | refine dq rfl rfl rfl (faS 2 rfl rfl (by first | assumption | (simp [ints_length] <;> omega))) ?_
      refine dl0 rfl rfl rfl ?_
      refine st (v := .int _ _) (vs := [_]) 1 rfl rfl rfl rfl rfl rfl (Nat.le_of_ble_eq_true rfl) rfl ?_
      refine TD.nil (nt ?_)
      refine TC.seq ?_
      refine TC.region ?_
      refine q rfl rfl (mv (v := .pointer _) rfl) ?_
      refine q rfl rfl (mv (v := .pointer _) rfl) ?_
      first | refine q rfl rfl (nc rfl) ?_ | refine q rfl rfl (ncF rfl) ?_ | refine q rfl rfl (ncS rfl (by first | assumption | (simp [ints_length] <;> omega))) ?_
      first | refine q rfl rfl (fa 2 rfl rfl) ?_ | refine q rfl rfl (faS 2 rfl rfl (by first | assumption | (simp [ints_length] <;> omega))) ?_
      first | refine q rfl rfl (ld rfl rfl rfl) ?_ | refine q rfl rfl (ldS rfl rfl rfl) ?_
      refine e rfl ?_
      refine cl (fat_ok b mb ob Z.length last (fN A Z) t.par) rfl (picked_cons 4 rfl (picked_cons 4 rfl (picked_nil _))) trivial ?_
      intro _ _
      change TL _ _ _ _ _ _ _ _ (sepL [_, _, _, _, _, _, _, _, _, _])
      by_cases hp : hasN Z t.par
      · obtain ⟨w, hw, hwp⟩ := hp
        have hf2 : fN A Z t.par = some (.pointer (some ⟨A w.id, 0, none⟩)) := by rw [← hwp]; exact fN_yes ⟨w, hw, rfl⟩
        rw [hf2]
        have hwr := hI.wi.rg w hw
        have hwM : w ∈ M := by
          rcases List.mem_cons.1 (hM.mem_iff.1 hw) with e | e
          · subst e; omega
          · exact e
        obtain ⟨M2, hM2⟩ := perm_mem hwM
        have hM2n := (List.nodup_cons.1 ((hM2.map (·.id)).nodup_iff.1 (List.nodup_cons.1 hMn).2)).1
        have hkw := kidsN_len Z w.id
        have hkx : ∀ x ∈ M2, x.id ≠ w.id ∧ kidsN (moveN Z u t.par) x.id = kidsN Z x.id := fun x hx => by
          have hxM : x ∈ M := hM2.mem_iff.2 (by simp [hx])
          have hxZ : x ∈ Z := hM.mem_iff.2 (by simp [hxM])
          have hne : x.id ≠ w.id := fun e => hM2n (List.mem_map.2 ⟨x, hx, e⟩)
          exact ⟨hne, kids_move_ne hI.wi.nd hu (fun e => hne (by rw [hwp, e])) (hni x hxZ)⟩
        have hkp : kidsN (moveN Z u t.par) w.id = kidsN Z w.id ++ [u.id] := by rw [hwp]; exact kids_move_p hI.wi.nd hu (by omega) (by omega)
        have hP3 : (⟨u.id, t.par, u.sp, u.sl⟩ :: w :: M2 : List Fn).Perm (moveN Z u t.par) := (hM2.symm.cons _).trans hPm
        have huw : u.id ≠ w.id := by omega
        have hil := ints_length (kidsN Z w.id)
        refine q rfl rfl (asg (v := .pointer _) rfl) ?_
        refine TL.nil (nt ?_)
        refine TC.seq ?_
        refine TC.region ?_
        refine q rfl rfl (mv (v := .pointer _) rfl) ?_
        refine q rfl rfl (neNil rfl rfl rfl) ?_
        refine TL.nil (nt ?_)
        refine TC.condT rfl ?_
        refine TC.weak (ent_openB 5 rfl hM2) ?_
        refine TC.weak (ent_openB 6 rfl hM2) ?_
        refine TC.region ?_
        refine q rfl rfl (mv (v := .pointer _) rfl) ?_
        refine q rfl rfl (mv (v := .pointer _) rfl) ?_
        first | refine q rfl rfl (nc rfl) ?_ | refine q rfl rfl (ncF rfl) ?_ | refine q rfl rfl (ncS rfl (by first | assumption | (simp [ints_length] <;> omega))) ?_
        first | refine q rfl rfl (fa 3 rfl rfl) ?_ | refine q rfl rfl (faS 3 rfl rfl (by first | assumption | (simp [ints_length] <;> omega))) ?_
        first | refine q rfl rfl (ld rfl rfl rfl) ?_ | refine q rfl rfl (ldS rfl rfl rfl) ?_
        refine q rfl rfl (mv (v := .int _ _) rfl) ?_
        refine e rfl ?_
        refine bs (cs := [.int _ _]) rfl ?_
        intro b5
        refine e rfl ?_
        refine ap 8 rfl rfl rfl rfl rfl (Nat.le_of_ble_eq_true rfl) (show _ = ints [u.id] from rfl) rfl (by omega) (by simp only [maxLen]; omega) ?_
        intro ad3 cap3
        first | refine q rfl rfl (nc rfl) ?_ | refine q rfl rfl (ncF rfl) ?_ | refine q rfl rfl (ncS rfl (by first | assumption | (simp [ints_length] <;> omega))) ?_
        first | refine q rfl rfl (fa 3 rfl rfl) ?_ | refine q rfl rfl (faS 3 rfl rfl (by first | assumption | (simp [ints_length] <;> omega))) ?_
        refine e0 ?_
        refine st (v := .slice _ _ _) (vs := [_]) 1 rfl rfl rfl rfl rfl rfl (Nat.le_of_ble_eq_true rfl) rfl ?_
        refine TL.nil (nb (nt ?_))
        refine TC.region ?_
        first | refine q rfl rfl (addI rfl rfl (by omega) (by omega)) ?_ | refine q rfl rfl (add rfl rfl rfl) ?_
        refine q rfl rfl (mv (v := .int _ _) rfl) ?_
        refine TL.nil (nt ?_)
        have hcN : ∀ x ∈ M2, nP A ad cap Z x = nP A (updI ad w.id ad3) (updI cap w.id cap3) (moveN Z u t.par) x := fun x hx => by
          obtain ⟨h1, h2⟩ := hkx x hx
          dsimp only [nP]; rw [updI_ne h1, updI_ne h1, h2]
        have hcK : ∀ x ∈ M2, kP ad cap Z x = kP (updI ad w.id ad3) (updI cap w.id cap3) (moveN Z u t.par) x := fun x hx => by
          obtain ⟨h1, h2⟩ := hkx x hx
          dsimp only [kP]; rw [updI_ne h1, updI_ne h1, h2]
        exact ⟨rfl, ⟨i + 1, moveN Z u t.par⟩, ⟨hIn, by dsimp only; omega⟩, (by dsimp only; omega), ⟨rfl, rfl, rfl, rfl, rfl, trivial⟩, (ent_close ⟨updI ad w.id ad3, updI cap w.id cap3, mb, ob⟩ hIn.wi (ent_take 5 rfl (ent_takeE 5 rfl (by rw [fN_congr (move_has hu t.par), hml]) (ent_takeE 7 rfl (by rw [fO_move hI.wi hu hpp, hml]) (ent_closeB2 5 0 3 (⟨u.id, t.par, u.sp, u.sl⟩ : Fn) w rfl rfl rfl (by dsimp only [nP]; rw [updI_ne huw, updI_ne huw, hku]; rfl) (by dsimp only [nP]; rw [updI_same, updI_same, hkp, List.length_append]; rfl) hcN hP3 (ent_closeB2 3 0 1 (⟨u.id, t.par, u.sp, u.sl⟩ : Fn) w rfl rfl rfl (by dsimp only [kP]; rw [updI_ne huw, updI_ne huw, hku]) (by dsimp only [kP]; rw [updI_same, updI_same, hkp, List.length_append, List.length_singleton, ints_app1]) hcK hP3 (ent_take 1 rfl (ent_take 1 rfl (ent_take 1 rfl (ent_nil _))))))))))⟩
      · have hf2 := fN_no (A := A) hp
        rw [hf2]
        have hkx : ∀ x ∈ M, kidsN (moveN Z u t.par) x.id = kidsN Z x.id := fun x hx => by
          have hxZ : x ∈ Z := hM.mem_iff.2 (by simp [hx])
          exact kids_move_ne hI.wi.nd hu (fun e => hp ⟨x, hxZ, e.symm⟩) (hni x hxZ)
        have hcN : ∀ x ∈ M, nP A ad cap Z x = nP A ad cap (moveN Z u t.par) x := fun x hx => by dsimp only [nP]; rw [hkx x hx]
        have hcK : ∀ x ∈ M, kP ad cap Z x = kP ad cap (moveN Z u t.par) x := fun x hx => by dsimp only [kP]; rw [hkx x hx]
        refine q rfl rfl (asg (v := .pointer _) rfl) ?_
        refine TL.nil (nt ?_)
        refine TC.seq ?_
        refine TC.region ?_
        refine q rfl rfl (mv (v := .pointer _) rfl) ?_
        refine q rfl rfl (neNil rfl rfl rfl) ?_
        refine TL.nil (nt ?_)
        refine TC.condF rfl ?_
        refine TC.skip (nb (nt ?_))
        refine TC.region ?_
        first | refine q rfl rfl (addI rfl rfl (by omega) (by omega)) ?_ | refine q rfl rfl (add rfl rfl rfl) ?_
        refine q rfl rfl (mv (v := .int _ _) rfl) ?_
        refine TL.nil (nt ?_)
        exact ⟨rfl, ⟨i + 1, moveN Z u t.par⟩, ⟨hIn, by dsimp only; omega⟩, (by dsimp only; omega), ⟨rfl, rfl, rfl, rfl, rfl, trivial⟩, (ent_close ⟨ad, cap, mb, ob⟩ hIn.wi (ent_take 0 rfl (ent_takeE 0 rfl (by rw [fN_congr (move_has hu t.par), hml]) (ent_takeE 4 rfl (by rw [fO_move hI.wi hu hpp, hml]) (ent_closeB 0 2 (⟨u.id, t.par, u.sp, u.sl⟩ : Fn) rfl rfl (by dsimp only [nP]; rw [hku]; rfl) hcN hPm (ent_closeB 0 0 (⟨u.id, t.par, u.sp, u.sl⟩ : Fn) rfl rfl (by dsimp only [kP]; rw [hku]) hcK hPm (ent_take 0 rfl (ent_take 0 rfl (ent_take 0 rfl (ent_nil _))))))))))⟩
    · obtain rfl : i = (kidsN L t.id).length := by omega
      rw [hI.done hW0 ht]
      refine TC.exit (et (et (eb (nt ?_))))
      refine TC.seq ?_
      refine TC.region ?_
      refine q rfl rfl (asg (v := .int _ _) rfl) ?_
      refine TL.nil (nt ?_)
      refine TC.ret ?_
      exact Ret.i () [_] ⟨rfl, trivial⟩ rfl trivial (ent_close A trivial (ent_take 0 rfl (ent_take 2 rfl (ent_nil _))))
  · have hf := fN_no (A := A) hy
    have hv1 : liftE L id = 6 := if_neg hy
    have hv2 : liftN L id = L := by rw [liftN, findN_no hy]
    rw [hv1, hv2]
    refine TC.seq ?_
    refine TC.region ?_
    refine q rfl rfl (asg (v := .int _ _) rfl) ?_
    refine TL.nil (nt ?_)
    refine TC.seq ?_
    refine TC.region ?_
    refine q rfl rfl (mv (v := .pointer _) rfl) ?_
    refine q rfl rfl (mv (v := .int _ _) rfl) ?_
    refine e rfl ?_
    refine cl (fat_ok b mb ob L.length last (fN A L) id) rfl (picked_cons 0 rfl (picked_cons 0 rfl (picked_nil _))) trivial ?_
    intro _ _
    change TL _ _ _ _ _ _ _ _ (sepL [_, _, _, _, _, _])
    rw [hf]
    refine q rfl rfl (asg (v := .pointer _) rfl) ?_
    refine TL.nil (nt ?_)
    refine TC.seq ?_
    refine TC.block ?_
    refine TC.seq ?_
    refine TC.region ?_
    refine q rfl rfl (mv (v := .pointer _) rfl) ?_
    refine q rfl rfl (eqNil rfl rfl rfl) ?_
    refine q rfl rfl (asg (v := .bool _) rfl) ?_
    refine TL.nil (nt ?_)
    refine TC.condF rfl ?_
    refine TC.seq ?_
    refine TC.region ?_
    refine q rfl rfl (mv (v := .pointer _) rfl) ?_
    refine q rfl rfl (eqNil rfl rfl rfl) ?_
    refine q rfl rfl (asg (v := .bool _) rfl) ?_
    refine TL.nil (nt ?_)
    refine TC.condT rfl ?_
    refine TC.seq ?_
    refine TC.region ?_
    refine q rfl rfl (asg (v := .int _ _) rfl) ?_
    refine TL.nil (nt ?_)
    refine TC.ret (rb (rt ?_))
    exact Ret.i () [_] ⟨rfl, trivial⟩ rfl trivial (ent_close A trivial (ent_close ⟨ad, cap, mb, ob⟩ hW (ent_take 0 rfl (ent_take 0 rfl (ent_take 0 rfl (ent_take 0 rfl (ent_take 0 rfl (ent_take 0 rfl (ent_nil _)))))))))

theorem flift_nil (id : Int) : FSpec Try.prog 11 [.pointer none, .int .i64 id] noRd [] (fun _ : Unit => .int .i64 1) (fun _ => True) (fun _ => []) := by
  refine FSpec.intro (rs := [.tmp 4]) (by kernel_rfl) Try.func11 rfl Try.ntmps11 (by rfl) rfl ?_
  intro F _
  change TC _ _ _ _ _ _ _ (sepL [_])
  refine TC.seq ?_
  refine TC.region ?_
  refine q rfl rfl (asg (v := .int _ _) rfl) ?_
  refine TL.nil (nt ?_)
  refine TC.seq ?_
  refine TC.region ?_
  refine q rfl rfl (mv (v := .pointer _) rfl) ?_
  refine q rfl rfl (mv (v := .int _ _) rfl) ?_
  refine e rfl ?_
  refine cl (fat_nil id) rfl (picked_nil _) trivial ?_
  intro _ _
  change TL _ _ _ _ _ _ _ _ (sepL [_])
  refine q rfl rfl (asg (v := .pointer _) rfl) ?_
  refine TL.nil (nt ?_)
  refine TC.seq ?_
  refine TC.block ?_
  refine TC.seq ?_
  refine TC.region ?_
  refine q rfl rfl (mv (v := .pointer _) rfl) ?_
  refine q rfl rfl (eqNil rfl rfl rfl) ?_
  refine q rfl rfl (asg (v := .bool _) rfl) ?_
  refine TL.nil (nt ?_)
  refine TC.condT rfl ?_
  refine TC.seq ?_
  refine TC.region ?_
  refine q rfl rfl (asg (v := .int _ _) rfl) ?_
  refine TL.nil (nt ?_)
  refine TC.ret (rb (rt ?_))
  exact Ret.i () [_] ⟨rfl, trivial⟩ rfl trivial (ent_take 0 rfl (ent_nil _))

end Go.Proofs.Ytffoeolgjgpmjaa
