/- Proved here: contracts of functions of this program, under the premises that each theorem names. -/
import Derived.Lib.AppendZerosOnto
import Derived.Lib.Overlaps
import Derived.Test.YtnlgmaibhlicjaaGreatDoorYm
set_option maxRecDepth 4000
namespace Go.QM
open Go
section
variable {r : Option Nat} {P : Program} {N : Nat} {ops : Array Oper} {l : List Oper} {Q : Post} {ρ : Env} {ds : List Deferred} {A : HP} {K : Value → HP → Prop}
variable {d : Option Tmp} {ty : TypeId} {ps : String} {af : Array Edge} {g : Option (Nat × Bool)}
variable {t t' : TypeId} {x y z u : Operand}
theorem clF {f : FuncId} {fo : Operand} {vs : List Value} {cargs : List Operand} {tys : Array TypeId} {rd : HP → Prop} {pre hs rest : List HP} {Y : Type} {res : Y → Value} {φ : Y → Prop} {post : Y → List HP}
    (spec : FSpec P f vs rd pre res φ post) (hc : ev ρ fo = .func (.func f) #[] #[]) (ha : evL ρ cargs = vs) (hp : Picked hs pre rest) (hrd : rd (sepL rest)) (k : ∀ y, φ y → K (res y) (sepL (post y ++ rest))) :
    OW r P ρ ⟨d, .call ⟨.value fo, cargs.toArray, tys⟩, ty, ps, af, g⟩ (sepL hs) K :=
  clC (lb := []) (vs := vs) (by simpa using spec) hc ha hp hrd k
theorem sl3 (E sz : Nat) {ad : Option Addr} {n cap i j mx : Nat} (ht : slcT P t E sz = true) (hx : ev ρ x = .slice ad n cap) (hy : ev ρ y = .int .i64 (i : Int)) (hz : ev ρ z = .int .i64 (j : Int)) (hu : ev ρ u = .int .i64 (mx : Int)) (h1 : i ≤ j) (h2 : j ≤ mx) (h3 : mx ≤ cap) :
    OQ P ρ ⟨d, .slice t x (some y) (some z) (some u), ty, ps, af, g⟩ A (.slice (sliceOff ad mx i sz) (j - i) (mx - i)) :=
  fun w _ => by
    have e0 : (Instr.sliceBound (.int .i64 (mx : Int)) cap .slice3Acap).run P w = .ok mx w := by simp [Instr.sliceBound, asIntOf, h3]
    have e1 : (Instr.sliceBound (.int .i64 (j : Int)) mx .slice3B).run P w = .ok j w := by simp [Instr.sliceBound, asIntOf, h2]
    have e2 : (Instr.sliceBound (.int .i64 (i : Int)) j .slice3C).run P w = .ok i w := by simp [Instr.sliceBound, asIntOf, h1]
    simp [execOp, Instr.sliceAt, Instr.slice, Instr.sliceBounds, hx, hy, hz, hu, slcT_run ht, e0, e1, e2, sliceOff]
theorem slIJ (E sz : Nat) {ad : Option Addr} {n cap i j : Nat} (ht : slcT P t E sz = true) (hx : ev ρ x = .slice ad n cap) (hy : ev ρ y = .int .i64 (i : Int)) (hz : ev ρ z = .int .i64 (j : Int)) (h1 : i ≤ j) (h2 : j ≤ cap) :
    OQ P ρ ⟨d, .slice t x (some y) (some z) none, ty, ps, af, g⟩ A (.slice (sliceOff ad cap i sz) (j - i) (cap - i)) := by
  have h := slFT (P := P) (A := A) (d := d) (ty := ty) (ps := ps) (af := af) (g := g) E sz ht hx hy hz (by omega) (by omega) (by omega)
  simpa using h
theorem capR (E sz : Nat) {ad : Option Addr} {n cap : Nat} (ht : slcT P t E sz = true) (hx : ev ρ x = .slice ad n cap) :
    OQ P ρ ⟨d, .call ⟨.builtin .cap, #[x], #[t]⟩, ty, ps, af, g⟩ A (.int .i64 cap) :=
  fun w _ => by simp [execOp, resolve, invoke, builtin, Builtin.cap_, hx, slcT_run ht, goInt]
theorem cpyAt {hs rest : List HP} {E sz n cap E2 m cap2 j : Nat} {ad ad2 : Option Addr} {cs cs2 cs' : List Value} (k : Nat) (ht : slcT P t E sz = true) (hx : ev ρ x = .slice (sliceOff ad cap j sz) (n - j) (cap - j)) (hy : ev ρ y = .slice ad2 m cap2)
    [hi : TkS hs ad E sz n cap cs rest] [hr : RdSI (sepL hs) ad2 E2 cs2] (hj : j < n) (hm : m * sz ≤ cs2.length) (hk : Nat.min m (n - j) = k) (hp : 0 < sz) (h1 : (cs2.take (k * sz)).all Value.oneCell' = true) (hs' : splice (j * sz) (cs2.take (k * sz)) cs = cs')
    (kk : K (.int .i64 k) (sepL (slc E sz ad n cap cs' :: rest))) : OW r P ρ ⟨d, .call ⟨.builtin .copy, #[x, y], #[t, t']⟩, ty, ps, af, g⟩ (sepL hs) K := by
  refine OW.run rfl fun w hsat => ?_
  have hfacts : cs.length = n * sz := by
    obtain ⟨i, hi⟩ := hi.tk
    obtain ⟨hh, hx', a, b, dd, rfl, hp, hq⟩ := hsat.weak (take1_ent hi)
    exact (slc_facts hp).1
  have hcl0 : 0 < cs.length := by rw [hfacts]; exact Nat.mul_pos (by omega) hp
  obtain ⟨pb, pre, suf, rfl, f2, f3, f4, f5, h2⟩ := slc_open hsat hi.tk hcl0
  have hb : w.heap[pb]? = some (.cells (pre ++ cs ++ suf).toArray E (0, 0)) := (Rd_l (Rd_pts pb E _)).sat h2
  have hkm : k ≤ m := by rw [← hk]; exact Nat.min_le_left _ _
  have hkn : k ≤ n - j := by rw [← hk]; exact Nat.min_le_right _ _
  have hks : k * sz ≤ cs2.length := Nat.le_trans (Nat.mul_le_mul_right _ hkm) hm
  have hcl : (cs2.take (k * sz)).length = k * sz := by rw [List.length_take]; omega
  have hfit : j * sz + (cs2.take (k * sz)).length ≤ cs.length := by
    rw [hcl, f2, ← Nat.add_mul]; exact Nat.mul_le_mul_right _ (by omega)
  have hst := storeCells_run (P := P) (off := pre.length + j * sz) hb (by rw [List.length_append, List.length_append]; omega) h1
  rw [splice_mid hfit, hs'] at hst
  have hso : sliceOff (some (⟨pb, pre.length, none⟩ : Addr)) cap j sz = some ⟨pb, pre.length + j * sz, none⟩ := by
    rw [sliceOff, if_neg (by omega)]; simp [addr_add]
  rw [hso] at hx
  have hfe : Builtin.firstCells sz k (.slice ad2 m cap2) = Builtin.firstCells sz k (.slice ad2 k cap2) := by cases ad2 <;> rfl
  have hfc : (Builtin.firstCells sz k (.slice ad2 m cap2)).run P w = .ok (cs2.take (k * sz)).toArray w := by rw [hfe]; exact firstCells_run (hr.rd.sat hsat) hks
  refine ⟨.int .i64 k, w.setRow pb (pre ++ cs' ++ suf).toArray, _, .inl ?_, ⟨rfl, rfl, rfl, by simp⟩, slc_turn h2 f2 f3 f4 f5 (by rw [← hs']; exact splice_length hfit), kk⟩
  simp [execOp, resolve, invoke, builtin, Builtin.copy_, hx, hy, slcT_run ht, Builtin.lenOf, hk, hfc, hst, goInt]
theorem apSelf {hs rest : List HP} {E sz n cap i j cap2 : Nat} {ad : Option Addr} {cs cs' : List Value} (bytes : Nat) (ht : slcT P t E sz = true) (ht2 : slcT P t' E sz = true) (hel : elT P E sz bytes = true) (hx : ev ρ x = .slice ad i cap) (hy : ev ρ y = .slice (sliceOff ad cap j sz) (n - j) cap2)
    [hi : TkS hs ad E sz n cap cs rest] (hij : i ≤ j) (hj : j ≤ n) (hn : 0 < n) (hp : 0 < sz) (h1 : cs.all Value.oneCell' = true) (hs' : splice (i * sz) (cs.drop (j * sz)) cs = cs')
    (k : K (.slice ad (i + (n - j)) cap) (sepL (slc E sz ad n cap cs' :: rest))) : OW r P ρ ⟨d, .call ⟨.builtin .append, #[x, y], #[t, t']⟩, ty, ps, af, g⟩ (sepL hs) K := by
  refine OW.run rfl fun w hsat => ?_
  have hfacts : cs.length = n * sz ∧ n ≤ cap := by
    obtain ⟨i, hi⟩ := hi.tk
    obtain ⟨hh, hx', a, b, dd, rfl, hp, hq⟩ := hsat.weak (take1_ent hi)
    exact ⟨(slc_facts hp).1, (slc_facts hp).2.1⟩
  have hrd : RdS (sepL hs) E (sliceOff ad cap j sz) (cs.drop (j * sz)) := by
    obtain ⟨i, hi⟩ := hi.tk
    exact RdS_drop (RdS_ent (ent_one i hi) (RdS_slc E sz ad n cap cs)) hfacts.1 hj hfacts.2
  have hcl0 : 0 < cs.length := by rw [hfacts.1]; exact Nat.mul_pos hn hp
  obtain ⟨inf, z0, hinf, hz, hsz, hby, hzc⟩ := elT_run hel
  obtain ⟨pb, pre, suf, rfl, f2, f3, f4, f5, h2⟩ := slc_open hsat hi.tk hcl0
  have hb : w.heap[pb]? = some (.cells (pre ++ cs ++ suf).toArray E (0, 0)) := (Rd_l (Rd_pts pb E _)).sat h2
  have hdl : (cs.drop (j * sz)).length = (n - j) * sz := by rw [List.length_drop, f2, Nat.sub_mul]
  have hroom : i + (n - j) ≤ cap := by omega
  have hfit : i * sz + (cs.drop (j * sz)).length ≤ cs.length := by rw [hdl, f2, ← Nat.add_mul]; exact Nat.mul_le_mul_right _ (by omega)
  have hst := storeCells_run (P := P) (off := pre.length + i * sz) hb (vs := cs.drop (j * sz)) (by rw [List.length_append, List.length_append]; omega) (by rw [List.all_eq_true] at h1 ⊢; exact fun v hv => h1 v (List.mem_of_mem_drop hv))
  rw [splice_mid hfit, hs'] at hst
  have hfc : (Builtin.firstCells sz (n - j) (.slice (sliceOff (some ⟨pb, pre.length, none⟩) cap j sz) (n - j) cap2)).run P w = .ok (cs.drop (j * sz)).toArray w := by
    have := firstCells_run (P := P) (w := w) (sz := sz) (m := n - j) (c := cap2) (hrd.sat hsat) (by rw [hdl]; exact Nat.le_refl _)
    rwa [List.take_of_length_le (by rw [hdl]; exact Nat.le_refl _)] at this
  refine ⟨.slice (some ⟨pb, pre.length, none⟩) (i + (n - j)) cap, w.setRow pb (pre ++ cs' ++ suf).toArray, _, .inl ?_, ⟨rfl, rfl, rfl, by simp⟩, slc_turn h2 f2 f3 f4 f5 (by rw [← hs']; exact splice_length hfit), k⟩
  simp only [execOp, resolve, invoke, builtin, Builtin.append_, List.map_toArray, List.map_cons, List.map_nil, Sem.run_bind, Sem.run_pure, Result.andThen_ok, hx, hy, List.getElem?_toArray, List.getElem?_cons_zero, List.getElem?_cons_succ, slcT_run ht, slcT_run ht2, Builtin.lenOf, Bool.false_eq_true, if_false]
  rw [if_pos hroom]
  simp only [Sem.run_bind, Bool.not_false, if_true, hfc, Result.andThen_ok, addr_add, hst, Sem.run_pure]
theorem apz {hs : List HP} {E sz i cap k E2 : Nat} {ad : Option Addr} {cs zs : List Value} {z0 : Value} (bytes : Nat) (ht : slcT P t E sz = true) (htn : intT P t' .i64 = true) (hel : elT P E sz bytes = true) (hz0 : zeroT P E = some z0) (hx : ev ρ x = .slice ad i cap) (hy : ev ρ y = .int .i64 (k : Int))
    [hr : RdSI (sepL hs) ad E2 cs] (hm : i * sz ≤ cs.length) (h0 : 0 < k) (hp : 0 < sz) (hg : cap < i + k) (hb : (i + k) * bytes ≤ 140737488355328) (hl : i + k ≤ maxLen) (hzs : (List.replicate k z0.cells.toList).flatten = zs)
    (kk : ∀ b cap', K (.slice (some ⟨b, 0, none⟩) (i + k) cap') (sepL (slc E sz (some ⟨b, 0, none⟩) (i + k) cap' (cs.take (i * sz) ++ zs) :: hs))) : OW r P ρ ⟨d, .call ⟨.builtin .append, #[x, y], #[t, t']⟩, ty, ps, af, g⟩ (sepL hs) K := by
  obtain ⟨inf, z, hinf, hz, hsz, hby, hzc⟩ := elT_run hel
  have hzz : z = z0 := by simp only [zeroT, hinf, Option.bind_some, hz] at hz0; cases hz0; rfl
  subst hzz
  refine OW.run rfl fun w hsat => ?_
  have hold : (Builtin.firstCells sz i (.slice ad i cap)).run P w.drew = .ok (cs.take (i * sz)).toArray w.drew := firstCells_run (hr.rd.sat (w := w.drew) hsat) hm
  have hml : maxLen = 9223372036854775807 := rfl
  have hund : P.underlying t = some (.slice E) ∧ P.underlying t' = some (.int .i64) := by
    constructor
    · unfold slcT at ht; split at ht
      · rename_i e h; simp only [Bool.and_eq_true] at ht; rw [h]; congr 2; exact Nat.eq_of_beq_eq_true ht.1
      · cases ht
    · unfold intT at htn; split at htn
      · rename_i e h; rw [h]; congr 2; simpa using htn
      · cases htn
  have hge := grownCap_ge w (i + k) cap E
  have hcl := grownCap_le_maxLen w (i + k) cap E hl
  have hfitn := growslice_fits (need := i + k) (old := cap) (bytes := bytes) hg hb
  have hkb : k * bytes ≤ (i + k) * bytes := Nat.mul_le_mul_right _ (by omega)
  have hrun := Lib.run_append_grow_zeros (P := P) w t t' ty E inf z .i64 .i64 hund.1 hund.2 hinf hz ad i cap (cs.take (i * sz)) (by rw [hsz]; exact hold) k h0 (by omega) hg (by omega) (by rw [hby]; omega) (by rw [hby]; exact hfitn)
  refine ⟨.slice (some ⟨w.heap.size, 0, none⟩) (i + k) (grownCap w (i + k) cap E), w.drew.alloc (.cells ((cs.take (i * sz)).toArray ++ Builtin.zeroCells z.cells k ++ Builtin.zeroCells z.cells (grownCap w (i + k) cap E - (i + k))) E), _, .inl ?_, ?_, ?_, kk w.heap.size (grownCap w (i + k) cap E)⟩
  · simp only [execOp, resolve, invoke, builtin, List.map_toArray, List.map_cons, List.map_nil, Sem.run_bind, Sem.run_pure, Result.andThen_ok, hx, hy, hrun]
  · exact ⟨rfl, rfl, rfl, by simp⟩
  · have hzl : (Builtin.zeroCells z.cells k).toList = zs := by
      have := zero_cells z.cells k
      rw [Builtin.zeroCells, this, ← hzs]
    have hzn : zs.length = k * sz := by rw [← hzl, Array.length_toList, size_zeroCells, hzc]
    refine (sat_alloc _ (show sat w.drew (sepL hs) from hsat)).weak (sep_mono (ent_of_imp fun h hh => ?_) (ent.refl _))
    refine ⟨([], (Builtin.zeroCells z.cells (grownCap w (i + k) cap E - (i + k))).toList), ⟨rfl, ?_, hge, hcl, ?_⟩, ?_⟩
    · rw [List.length_append, List.length_take, hzn, Nat.add_mul]; omega
    · have hl2 : (Builtin.zeroCells z.cells (grownCap w (i + k) cap E - (i + k))).toList.length = (grownCap w (i + k) cap E - (i + k)) * sz := by rw [Array.length_toList, size_zeroCells, hzc]
      dsimp only
      rw [List.length_append, List.length_take, hzn, hl2, Nat.min_eq_left hm, ← Nat.add_mul, ← Nat.add_mul]
      exact Nat.mul_le_mul_right _ (by omega)
    · simp only [pts]
      have e : ([] ++ (cs.take (i * sz) ++ zs) ++ (Builtin.zeroCells z.cells (grownCap w (i + k) cap E - (i + k))).toList).toArray = (cs.take (i * sz)).toArray ++ Builtin.zeroCells z.cells k ++ Builtin.zeroCells z.cells (grownCap w (i + k) cap E - (i + k)) := by
        apply Array.ext'; simp [← hzl]
      rw [e]; exact hh
theorem ovl {hs rest rest2 : List HP} {f : FuncId} {fn : Func} {S R E sz n1 c1 n2 c2 m1 d1 m2 d2 j : Nat} {ad1 ad2 : Option Addr} {cs1 cs2 : List Value} (hf : P.funcs[f]? = some fn) (hname : (fn.name == "runtime.NumGoroutine") = false) (hbd : fn.body.isNone = true) (hn : Extern.findNext fn = none)
    (he : Extern.find fn = some (Extern.SlicesOverlaps.overlaps #[S, S] #[R])) (ht : slcT P S E sz = true) (ha : evL ρ [x, y] = [.slice ad1 m1 d1, .slice (sliceOff ad2 c2 j sz) m2 d2]) (i1 : Nat)
    (h1 : take1 i1 hs = some (slc E sz ad1 n1 c1 cs1, rest)) (hi2 : ∃ q, take1 q rest = some (slc E sz ad2 n2 c2 cs2, rest2)) (p1 : 0 < cs1.length) (p2 : 0 < cs2.length) (hj : j < c2) {tys : Array TypeId}
    (k : K (.bool false) (sepL hs)) : OW r P ρ ⟨d, .call ⟨.value (.func f), #[x, y], tys⟩, ty, ps, af, g⟩ (sepL hs) K := by
  refine OW.run rfl fun w hsat => ⟨.bool false, w, _, .inl ?_, Same.refl w, hsat, k⟩
  obtain ⟨q, hi2⟩ := hi2
  obtain ⟨hh, hx', a, b, dd, rfl, ha1, hb1⟩ := hsat.weak (take1_ent h1)
  obtain ⟨b', sb, a2, b2, dd2, e2, ha2, hb2⟩ := take1_ent hi2 b hb1
  cases ad1 with
  | none => obtain ⟨⟨_, _, e⟩, _⟩ := ha1; rw [e] at p1; simp at p1
  | some q1 =>
    cases ad2 with
    | none => obtain ⟨⟨_, _, e⟩, _⟩ := ha2; rw [e] at p2; simp at p2
    | some q2 =>
      obtain ⟨⟨pre1, suf1⟩, ⟨f1, -, -, -, -⟩, g1⟩ := ha1
      obtain ⟨⟨pre2, suf2⟩, ⟨f2, -, -, -, -⟩, g2⟩ := ha2
      obtain ⟨b1', o1, s1⟩ := q1
      obtain ⟨b2', o2, s2⟩ := q2
      simp only [Addr.mk.injEq, true_and] at f1 f2
      obtain ⟨rfl, rfl⟩ := f1
      obtain ⟨rfl, rfl⟩ := f2
      dsimp only at g1 g2
      have k1 : a b1' = some (.cells (pre1 ++ cs1 ++ suf1).toArray E (0, 0)) := by rw [g1]; simp
      have k2 : b b2' = some (.cells (pre2 ++ cs2 ++ suf2).toArray E (0, 0)) := sb _ _ (by rw [e2]; exact hsub_hun_l a2 b2 _ _ (by rw [g2]; simp))
      have hne : b1' ≠ b2' := fun e => by
        subst e
        rcases dd b1' with h | h
        · rw [k1] at h; cases h
        · rw [k2] at h; cases h
      have w1 := hx' _ _ (hsub_hun_l a b _ _ k1)
      have w2 := hx' _ _ (hsub_hun_r dd _ _ k2)
      have e3 : sliceOff (some (⟨b2', pre2.length, none⟩ : Addr)) c2 j sz = some ⟨b2', pre2.length + j * sz, none⟩ := by rw [sliceOff, if_neg (by omega)]; simp [addr_add]
      rw [e3] at ha
      have hund : P.underlying S = some (.slice E) ∧ ∀ w, (Go.sizeOf E).run P w = .ok sz w := by
        refine ⟨?_, fun w => (slcT_run ht w).2⟩
        unfold slcT at ht; split at ht
        · rename_i e h; simp only [Bool.and_eq_true] at ht; rw [h]; congr 2; exact Nat.eq_of_beq_eq_true ht.1
        · cases ht
      have hov := Lib.run_overlaps_apart (P := P) w S R E hund.1 sz hund.2 ⟨b1', pre1.length, none⟩ ⟨b2', pre2.length + j * sz, none⟩ m1 d1 m2 d2 hne E E (pre1 ++ cs1 ++ suf1).length (pre2 ++ cs2 ++ suf2).length
        (by simp [World.shape?, w1]) (by simp [World.shape?, w2]) (by simp only [List.length_append]; omega) (by simp [World.frozen?, w1]) (by simp [World.frozen?, w1])
      have hcall := run_callFunc_extern hf hname hbd hn he #[.slice (some ⟨b1', pre1.length, none⟩) m1 d1, .slice (some ⟨b2', pre2.length + j * sz, none⟩) m2 d2] w
      rw [hov] at hcall
      simp only [evL, List.cons.injEq, and_true] at ha
      have hfn : ev ρ (.func f) = .func (.func f) #[] #[] := rfl
      simp [execOp, resolve, Deferred.ofValue, invoke, hfn, ha.1, ha.2, hcall]
end
theorem splice_end {l vs : List Value} {a : Nat} (h : l.length ≤ a + vs.length) : splice a vs l = l.take a ++ vs := by
  rw [splice, List.drop_eq_nil_of_le h, List.append_nil]
theorem slc_room {E sz n cap : Nat} {ad : Option Addr} {cs : List Value} {m : Nat} (h : n + m ≤ cap) : ent (slc E sz ad n cap cs) (EX fun e : List Value => pure' (e.length = m * sz) (sepL [slc E sz ad (n + m) cap (cs ++ e)])) := by
  cases ad with
  | none =>
    rintro hh ⟨⟨rfl, rfl, rfl⟩, hx⟩
    obtain rfl : m = 0 := by omega
    obtain ⟨h'', s, k⟩ := sep_emp (A := slc E sz none 0 0 ([] ++ [])) hh ⟨⟨rfl, rfl, rfl⟩, hx⟩
    exact ⟨h'', s, [], by simp, k⟩
  | some p =>
    intro hh ⟨⟨pre, suf⟩, ⟨h1, h2, h3, h4, h5⟩, hx⟩
    dsimp only at h1 h2 h5 hx
    have h6 : (n + m) * sz ≤ cap * sz := Nat.mul_le_mul_right _ h
    have h7 : (suf.take (m * sz)).length = m * sz := by rw [List.length_take]; rw [Nat.add_mul] at h6; omega
    have key : slc E sz (some p) (n + m) cap (cs ++ suf.take (m * sz)) hh :=
      ⟨(pre, suf.drop (m * sz)), ⟨h1, by rw [List.length_append, h7, h2, Nat.add_mul], h, h4, by dsimp only; rw [List.length_append, h7, List.length_drop]; rw [Nat.add_mul] at h6; omega⟩, by
        dsimp only
        have e2 : pre ++ (cs ++ suf.take (m * sz)) ++ suf.drop (m * sz) = pre ++ cs ++ suf := by simp [List.append_assoc, List.take_append_drop]
        rw [e2]; exact hx⟩
    obtain ⟨h'', s, k⟩ := sep_emp (A := slc E sz (some p) (n + m) cap (cs ++ suf.take (m * sz))) hh key
    exact ⟨h'', s, suf.take (m * sz), h7, k⟩
end Go.QM
namespace Go.Proofs.YtnlgmaibhlicjaaGreatDoor
open Go Go.QM
def pgV (B : Nat → Nat) (p : Pg) : List Value := [.pointer (some ⟨(B p.pn), 0, none⟩), .int .i64 ((p.pn : Int) * 1024)]
theorem pgV_sz (B : Nat → Nat) (p : Pg) : (pgV B p).length = 2 := rfl
def pgC (B : Nat → Nat) (L : List Pg) : List Value := L.flatMap (pgV B)
theorem pgC_len (B : Nat → Nat) (L : List Pg) : (pgC B L).length = L.length * 2 := flat_length (pgV_sz B) L
theorem pgC_one (B : Nat → Nat) : ∀ L : List Pg, (pgC B L).all Value.oneCell' = true
 | [] => rfl
 | p :: L => by have := pgC_one B L; rw [pgC] at this ⊢; rw [List.flatMap_cons, List.all_append, this]; rfl
theorem pgC_app (B : Nat → Nat) (L M : List Pg) : pgC B (L ++ M) = pgC B L ++ pgC B M := by simp [pgC]
theorem pgC_take (B : Nat → Nat) (L : List Pg) (i : Nat) : (pgC B L).take (i * 2) = pgC B (L.take i) := flat_take (pgV_sz B) L i
theorem pgC_drop (B : Nat → Nat) (L : List Pg) (i : Nat) : (pgC B L).drop (i * 2) = pgC B (L.drop i) := flat_drop (pgV_sz B) L i
theorem pgC_rec {B : Nat → Nat} {L : List Pg} {i : Nat} {p : Pg} (h : L[i]? = some p) : ((pgC B L).drop (i * 2)).take 2 = [.pointer (some ⟨(B p.pn), 0, none⟩), .int .i64 ((p.pn : Int) * 1024)] := flat_get_rec (pgV_sz B) h
def cmpI (a b : Int) : Int := if a < b then -1 else if b < a then 1 else 0
theorem cmpI_lt {a b : Int} : cmpI a b < 0 ↔ a < b := by
 unfold cmpI
 by_cases h1 : a < b
 ·rw [if_pos h1]; omega
 ·rw [if_neg h1]
  by_cases h2 : b < a
  ·rw [if_pos h2]; omega
  ·rw [if_neg h2]; omega
theorem cmpI_eq {a b : Int} : cmpI a b = 0 ↔ a = b := by
 unfold cmpI
 by_cases h1 : a < b
 ·rw [if_pos h1]; omega
 ·rw [if_neg h1]
  by_cases h2 : b < a
  ·rw [if_pos h2]; omega
  ·rw [if_neg h2]; omega
def BsR (L : List Pg) (t : Int) (y : Nat × Bool) : Prop := y.1 ≤ L.length ∧ (∀ k p, L[k]? = some p → (k < y.1 ↔ (p.pn : Int) * 1024 < t)) ∧ (y.2 = true ↔ ∃ p, L[y.1]? = some p ∧ (p.pn : Int) * 1024 = t)
theorem ins_place {cs e vs : List Value} {k n : Nat} (hc : cs.length = n * 2) (he : e.length = 1 * 2) (hv : vs.length = 2) (hk : k < n) :
 splice (k * 2) vs (splice ((k + 1) * 2) (((cs ++ e).drop (k * 2)).take ((n - k) * 2)) (cs ++ e)) = cs.take (k * 2) ++ vs ++ cs.drop (k * 2) := by
 have h1 : ((cs ++ e).drop (k * 2)).take ((n - k) * 2) = cs.drop (k * 2) := by
  rw [List.drop_append_of_le_length (by omega), List.take_append_of_le_length (by rw [List.length_drop]; omega), List.take_of_length_le (by rw [List.length_drop]; omega)]
 have hd : (cs.drop (k * 2)).length = n * 2 - k * 2 := by rw [List.length_drop, hc]
 have h2 : splice ((k + 1) * 2) (cs.drop (k * 2)) (cs ++ e) = (cs ++ e).take ((k + 1) * 2) ++ cs.drop (k * 2) := by
  exact splice_end (by rw [List.length_append, hd]; omega)
 rw [h1, h2, splice, hv, List.take_append_of_le_length (by rw [List.length_take, List.length_append]; omega), List.take_take, Nat.min_eq_left (by omega), List.take_append_of_le_length (by omega),
  List.drop_append, List.drop_eq_nil_of_le (by rw [List.length_take, List.length_append]; omega), List.nil_append]
 congr 1
 have : k * 2 + 2 - ((cs ++ e).take ((k + 1) * 2)).length = 0 := by rw [List.length_take, List.length_append]; omega
 rw [this, List.drop_zero]
theorem ins_grow {cs vs zs : List Value} {k n : Nat} (hc : cs.length = n * 2) (hz : zs.length = (n + 1 - k) * 2) (hv : vs.length = 2) (hk : k < n) :
 splice ((k + 1) * 2) ((cs.drop (k * 2)).take ((n - k) * 2)) (splice (k * 2) (vs.take (1 * 2)) (cs.take (k * 2) ++ zs)) = cs.take (k * 2) ++ vs ++ cs.drop (k * 2) := by
 have hd : (cs.drop (k * 2)).length = n * 2 - k * 2 := by rw [List.length_drop, hc]
 have ht : (cs.take (k * 2)).length = k * 2 := by rw [List.length_take]; omega
 rw [List.take_of_length_le (by omega : (cs.drop (k * 2)).length ≤ (n - k) * 2), List.take_of_length_le (by omega : vs.length ≤ 1 * 2)]
 have h1 : splice (k * 2) vs (cs.take (k * 2) ++ zs) = cs.take (k * 2) ++ vs ++ zs.drop 2 := by
  rw [splice, List.take_append_of_le_length (by omega), List.take_of_length_le (by omega), hv, List.drop_append, List.drop_eq_nil_of_le (by omega), List.nil_append, ht]
  congr 2; omega
 rw [h1, splice_end (by rw [List.length_append, List.length_append, List.length_drop, ht, hv, hd, hz]; omega), List.take_append_of_le_length (by rw [List.length_append]; omega), List.take_of_length_le (by rw [List.length_append]; omega)]
theorem del_place {cs cs' : List Value} {k n : Nat} (hc : cs.length = n * 2) (hk : k < n) (h : cs'.take ((n - 1) * 2) = (splice (k * 2) (cs.drop ((k + 1) * 2)) cs).take ((n - 1) * 2)) : cs'.take ((n - 1) * 2) = cs.take (k * 2) ++ cs.drop ((k + 1) * 2) := by
 rw [h, splice, List.take_append_of_le_length (by rw [List.length_append, List.length_take, List.length_drop]; omega), List.take_of_length_le (by rw [List.length_append, List.length_take, List.length_drop]; omega)]
theorem isnan_ok (x : Int) : FSpec Tryz.prog 223 [.int .i64 x] noRd [] (fun _ : Unit => .bool false) (fun _ => True) (fun _ => []) := by
 refine fI Tryz.func223 Tryz.ntmps223 ?_
 intro F _
 refine zz [37,0,1,9,2,0,1,3,3,23,9,2,11] ?_
 exact Ret.i () [_] ⟨rfl, trivial⟩ (congrArg Value.bool (by simp)) trivial (ent_take 0 rfl (ent_nil _))
theorem cmp_ok (x y : Int) : FSpec Tryz.prog 179 [.int .i64 x, .int .i64 y] noRd [] (fun _ : Unit => .int .i64 (cmpI x y)) (fun _ => True) (fun _ => []) := by
 refine fI Tryz.func179 Tryz.ntmps179 ?_
 intro F _
 refine zz [37,0,1,4,2,0,1,3,5] ?_
 refine cl (isnan_ok x) rfl (picked_nil _) trivial ?_
 intro _ _
 refine zz [98,9,2,0,1,3,5] ?_
 refine cl (isnan_ok y) rfl (picked_nil _) trivial ?_
 intro _ _
 refine zz [98,9,2,0,0,1,20,2,10,7,0,0,1,20,2,10,7,0,0,1,3,3,38,2] ?_
 first | refine TC.condD rfl (fun h1 => ?_) (fun h1 => ?_) | refine TC.cond rfl (fun h1 => ?_) (fun h1 => ?_)
 ·have hv : cmpI x y = -1 := if_pos h1
  rw [hv]
  refine zz [0,1,4,2,51] ?_
  exact zc2
 ·refine zz [7,0,0,1,3,3,107,2] ?_
  first | refine TC.condD rfl (fun h2 => ?_) (fun h2 => ?_) | refine TC.cond rfl (fun h2 => ?_) (fun h2 => ?_)
  ·have hv : cmpI x y = 1 := by rw [cmpI, if_neg h1, if_pos h2]
   rw [hv]
   refine zz [0,1,4,2,51] ?_
   exact zc2
  ·have hv : cmpI x y = 0 := by rw [cmpI, if_neg h1, if_neg h2]
   rw [hv]
   refine zz [7,0,1,4,2,11] ?_
   exact zc2
theorem findc_ok (v : Option Addr) (x y : Int) : FSpec Tryz.prog 178 [.agg #[.pointer v, .int .i64 x], .int .i64 y] noRd [] (fun _ : Unit => .int .i64 (cmpI x y)) (fun _ => True) (fun _ => []) := by
 refine fI Tryz.func178 Tryz.ntmps178 ?_
 intro F _
 refine zz [37,0,1,5] ?_
 refine bx (v := .agg #[_, _]) (l := [.pointer _, .int _ _]) rfl rfl ?_
 intro b1
 refine zz [4,2,0,1,47,12,3,5] ?_
 refine cl (cmp_ok x y) rfl (picked_nil _) trivial ?_
 intro _ _
 refine zz [66,4,2,11] ?_
 exact zc0
theorem bsf_ok (B : Nat → Nat) (L : List Pg) (ad : Option Addr) (cap : Nat) (t : Int) (hs : L.Pairwise fun a b => a.pn < b.pn) (hl : L.length ≤ 1048576) : FSpec Tryz.prog 177 [.slice ad L.length cap, .int .i64 t, .func (.func 178) #[] #[]] (fun F => ∃ E, RdS F E ad (pgC B L)) [] (fun y : Nat × Bool => .tuple #[.int .i64 (y.1 : Int), .bool y.2]) (fun y => BsR L t y) (fun _ => []) := by
 refine fI Tryz.func177 Tryz.ntmps177 ?_
 intro F ⟨E, hF⟩
 refine zz [37] ?_
 haveI : RdSI F ad E (pgC B L) := ⟨hF⟩
 have hcl := pgC_len B L
 refine zz [0,1,4,9,2,0,1,29,148,4,2,0,1,3,4,4,2,0,17] ?_
 refine TC.loop (ι := Nat × Nat) (fun x => (x.1 ≤ x.2 ∧ x.2 ≤ L.length) ∧ (∀ k pg, L[k]? = some pg → k < x.1 → (pg.pn : Int) * 1024 < t) ∧ (∀ k pg, L[k]? = some pg → x.2 ≤ k → t ≤ (pg.pn : Int) * 1024)) (fun x => [(0, .slice ad L.length cap), (1, .int .i64 t), (2, .func (.func 178) #[] #[]), (8, .int .i64 L.length), (9, .int .i64 ((x.1 : Nat) : Int)), (10, .int .i64 ((x.2 : Nat) : Int))]) (fun x => sepL [F]) (fun x => x.2 - x.1) (0, L.length) ⟨⟨Nat.zero_le _, Nat.le_refl _⟩, fun k pg _ h => absurd h (Nat.not_lt_zero _), fun k pg h h2 => absurd (List.getElem?_eq_some_iff.1 h).1 (by dsimp only at h2; omega)⟩ ⟨rfl, rfl, rfl, rfl, rfl, rfl, trivial⟩ (ent_take 0 rfl (ent_nil _)) ?_
 rintro ⟨i, j⟩ ⟨⟨hij, hj⟩, hlo, hhi⟩ ρ0
 dsimp only [updL] at hij hj hlo hhi ⊢
 refine zz [0,0,1,3,3,38,2] ?_
 first | refine TC.condD rfl (fun hlt => ?_) (fun hlt => ?_) | refine TC.cond rfl (fun hlt => ?_) (fun hlt => ?_)
 ·have hh : (i + j) / 2 < L.length := by omega
  obtain ⟨pg, hq⟩ : ∃ pg, L[(i + j) / 2]? = some pg := ⟨L[(i + j) / 2], List.getElem?_eq_getElem hh⟩
  have hpos : 0 < (pgC B L).length := by omega
  refine zz [7,17,0,1,3,3] ?_
  refine q rfl rfl (OQ.to (v := ((i + j : Nat) : Int)) (addI rfl rfl (by omega) (by omega)) (by omega)) ?_
  refine zz [131] ?_
  refine q rfl rfl (shrU (n := 1) (c := (i + j) / 2) rfl rfl (by omega) (by rw [Nat.pow_one])) ?_
  refine zz [188,4,2,0,1] ?_
  refine q rfl rfl (mv (v := .func _ _ _) rfl) ?_
  refine zz [29,3,211] ?_
  first | refine q rfl rfl (ldN (vs := [_, _]) 2 rfl rfl rfl rfl) ?_ | refine q rfl rfl (ldSN (vs := [_, _]) 2 rfl rfl (pgC_rec hq) rfl (by decide)) ?_ | refine q rfl rfl (ldSN (vs := [_, _]) 2 rfl rfl rfl rfl (by decide)) ?_
  refine zz [3,5] ?_
  refine clF (findc_ok (some ⟨B pg.pn, 0, none⟩) ((pg.pn : Int) * 1024) t) rfl rfl (picked_nil _) trivial ?_
  intro _ _
  refine zz [98,38,2] ?_
  first | refine TC.condD rfl (fun hc => ?_) (fun hc => ?_) | refine TC.cond rfl (fun hc => ?_) (fun hc => ?_)
  ·have hc : (pg.pn : Int) * 1024 < t := cmpI_lt.1 hc
   refine zz [1,3] ?_
   refine q rfl rfl (OQ.to (v := (((i + j) / 2 + 1 : Nat) : Int)) (addI rfl rfl (by omega) (by omega)) (by omega)) ?_
   refine zz [4,63] ?_
   exact ⟨rfl, ((i + j) / 2 + 1, j), ⟨⟨by dsimp only; omega, hj⟩, fun k r hr hk => by
    dsimp only at hk
    by_cases e : k = (i + j) / 2
    ·subst e; rw [hq] at hr; cases hr; exact hc
    ·obtain ⟨g1, g2⟩ := List.getElem?_eq_some_iff.1 hr
     obtain ⟨g3, g4⟩ := List.getElem?_eq_some_iff.1 hq
     have := (List.pairwise_iff_getElem.1 hs) k ((i + j) / 2) g1 g3 (by omega)
     rw [g2, g4] at this; omega, hhi⟩, (by dsimp only; omega), ⟨rfl, rfl, rfl, rfl, rfl, rfl, trivial⟩, entS⟩
  ·have hc : ¬ (pg.pn : Int) * 1024 < t := fun h => hc (cmpI_lt.2 h)
   refine zz [1,3,4,63] ?_
   exact ⟨rfl, (i, (i + j) / 2), ⟨⟨by dsimp only; omega, by dsimp only; omega⟩, hlo, fun k r hr hk => by
    dsimp only at hk
    by_cases e : k = (i + j) / 2
    ·subst e; rw [hq] at hr; cases hr; omega
    ·obtain ⟨g1, g2⟩ := List.getElem?_eq_some_iff.1 hr
     obtain ⟨g3, g4⟩ := List.getElem?_eq_some_iff.1 hq
     have := (List.pairwise_iff_getElem.1 hs) ((i + j) / 2) k g3 g1 (by omega)
     rw [g2, g4] at this; omega⟩, (by dsimp only; omega), ⟨rfl, rfl, rfl, rfl, rfl, rfl, trivial⟩, entS⟩
 ·obtain rfl : i = j := by omega
  have hiff : ∀ k p, L[k]? = some p → (k < i ↔ (p.pn : Int) * 1024 < t) := fun k p hp => ⟨hlo k p hp, fun h => by
   by_cases e : k < i
   ·exact e
   ·have := hhi k p hp (by omega); omega⟩
  refine zz [50,0,1,3,3,3,38,20] ?_
  refine TL.split 39 rfl (fun hin => ?_) (fun hin => ?_)
  ·have hin := of_decide_eq_true hin
   have hin2 : i < L.length := by omega
   obtain ⟨pg, hq⟩ : ∃ pg, L[i]? = some pg := ⟨L[i], List.getElem?_eq_getElem hin2⟩
   have hpos : 0 < (pgC B L).length := by omega
   refine qg rfl rfl rfl (mv (v := .func _ _ _) rfl) ?_
   refine zz [212,32] ?_
   first | refine qg rfl rfl rfl (ixS 263 2 rfl rfl rfl (by omega) asm0) ?_ | refine qg rfl rfl rfl (ixJ 263 2 rfl rfl rfl (by omega) (by omega) asm0) ?_ | refine qg rfl rfl rfl (ix 263 2 rfl rfl rfl (by omega) (by omega) rfl) ?_
   first | refine qg rfl rfl rfl (ldN (vs := [_, _]) 2 rfl rfl rfl rfl) ?_ | refine qg rfl rfl rfl (ldSN (vs := [_, _]) 2 rfl rfl (pgC_rec hq) rfl (by decide)) ?_ | refine qg rfl rfl rfl (ldSN (vs := [_, _]) 2 rfl rfl rfl rfl (by decide)) ?_
   refine zz [32,59] ?_
   refine clF (findc_ok (some ⟨B pg.pn, 0, none⟩) ((pg.pn : Int) * 1024) t) rfl rfl (picked_nil _) trivial ?_
   intro _ _
   refine zz [98,74,19,4,9,2,11] ?_
   exact Ret.i (i, decide (cmpI ((pg.pn : Int) * 1024) t = 0)) [_, _] ⟨rfl, rfl, trivial⟩ rfl ⟨hj, hiff, ⟨fun h => ⟨pg, hq, cmpI_eq.1 (of_decide_eq_true h)⟩, fun ⟨p, h1, h2⟩ => decide_eq_true (cmpI_eq.2 (by rw [hq] at h1; cases h1; exact h2))⟩⟩ entS
  ·have hin := of_decide_eq_false hin
   refine zz [22,22,22,22,22,22,22,22,19,4,9,2,11] ?_
   exact Ret.i (i, false) [_, _] ⟨rfl, rfl, trivial⟩ rfl ⟨hj, hiff, ⟨fun h => (by cases h), fun ⟨p, h1, _⟩ => absurd (List.getElem?_eq_some_iff.1 h1).1 (by omega)⟩⟩ (ent_take 0 rfl (ent_nil _))
theorem pgdel_ok (ad : Option Addr) (cap n k : Nat) (cs : List Value) (hk : k < n) (hn : n ≤ 1048576) (hc : cs.length = n * 2) (hcn : n ≤ cap) (hcm : cap ≤ maxLen) (h1 : cs.all Value.oneCell' = true) : FSpec Tryz.prog 185 [.slice ad n cap, .int .i64 (k : Int), .int .i64 ((k : Int) + 1)] noRd [slc 263 2 ad n cap cs] (fun _ : Unit => .slice ad (n - 1) cap) (fun _ => True) (fun _ => [slc 263 2 ad (n - 1) cap (cs.take (k * 2) ++ cs.drop ((k + 1) * 2))]) := by
 refine fI Tryz.func185 Tryz.ntmps185 ?_
 intro F _
 refine zz [39] ?_
 have hml : maxLen = 9223372036854775807 := rfl
 have e1 : ((k : Nat) : Int) + 1 = ((k + 1 : Nat) : Int) := by omega
 rw [e1]
 refine zz [0,1,35,2,0,1,29,3,3,29,148] ?_
 refine q rfl rfl (sl3 (i := k) (j := k + 1) (mx := n) 263 2 rfl rfl rfl rfl rfl (by omega) (by omega) (by omega)) ?_
 refine zz [2,0,0,1,3,3,30,2] ?_
 refine TC.condD rfl (fun hc1 => absurd hc1 (by omega)) (fun hc1 => ?_)
 refine zz [7,0,1,29,148,4,2,0] ?_
 refine TC.draw _ [] [(0, false), (1, false), (2, false), (3, false), (4, false), (5, false), (6, true), (7, false)] (by kernel_rfl) (by kernel_rfl) (ent_nil _) ?_
 refine zz [102,33] ?_
 refine dq rfl rfl rfl (slTn 263 2 k rfl rfl rfl rfl (by omega)) ?_
 refine zz [102,33,242,16] ?_
 refine apSelf 16 rfl rfl rfl rfl rfl (by omega) (by omega) (by omega) (by decide) h1 rfl ?_
 refine zz [8,213,27,0] ?_
 have e2 : k + (n - (k + 1)) = n - 1 := by omega
 rw [e2]
 refine zz [1,29,29,148,3] ?_
 refine q rfl rfl (slIJ 263 2 rfl rfl rfl rfl (by omega) (by omega)) ?_
 refine e0 ?_
 refine clr (n := n) (E := 263) (sz := 2) (z := .agg #[.pointer none, .int .i64 0]) (n - 1) rfl rfl rfl rfl (by decide) rfl rfl (by omega) ?_
 intro cs2 hl2 ht2
 refine zz [2,0,1,29,35,2,11] ?_
 have hfin := del_place hc hk ht2
 exact Ret.i () [_] ⟨rfl, trivial⟩ rfl trivial (ent_at 0 rfl (slc_to (j := n - 1) (by omega)) (by rw [hfin]; exact (ent_take 0 rfl (ent_take 0 rfl (ent_nil _)))))
set_option maxHeartbeats 1000000 in
theorem pgins_ok (ad av : Option Addr) (cap cv n k : Nat) (cs vs : List Value) (hk : k ≤ n) (hn : n ≤ 1048576) (hc : cs.length = n * 2) (hv : vs.length = 2) (hcn : n ≤ cap) (hcm : cap ≤ maxLen) (hcv : 1 ≤ cv) (h1 : cs.all Value.oneCell' = true) (h2 : vs.all Value.oneCell' = true) : FSpec Tryz.prog 125 [.slice ad n cap, .int .i64 (k : Int), .slice av 1 cv] noRd [slc 263 2 ad n cap cs, slc 263 2 av 1 cv vs] (fun y : Option Addr × Nat => .slice y.1 (n + 1) y.2) (fun _ => True) (fun y => [slc 263 2 y.1 (n + 1) y.2 (cs.take (k * 2) ++ vs ++ cs.drop (k * 2))]) := by
 refine fI Tryz.func125 Tryz.ntmps125 ?_
 intro F _
 refine zz [44] ?_
 have hml : maxLen = 9223372036854775807 := rfl
 refine zz [0,1,35,2,0,1,29,3,214,2,0,1,29,148,4,2,0,0,1,3,30,2,10,7,0,1,29,148,4,2,0,0,1,3,3,30,2] ?_
 first | refine TC.condD rfl (fun hkn => ?_) (fun hkn => ?_) | refine TC.cond rfl (fun hkn => ?_) (fun hkn => ?_)
 ·obtain rfl : k = n := by omega
  refine zz [0,1,29,29,5] ?_
  refine ap 16 rfl rfl rfl rfl rfl (by omega) (show vs.take (1 * 2) = vs from List.take_of_length_le (by omega)) h2 (by omega) (by simp only [maxLen]; omega) ?_
  intro ad7 cap7
  refine zz [35,2,51] ?_
  have hfin : cs.take (k * 2) ++ vs ++ cs.drop (k * 2) = cs ++ vs := by rw [List.take_of_length_le (by omega), List.drop_eq_nil_of_le (by omega), List.append_nil]
  exact Ret.i (ad7, cap7) [_] ⟨rfl, trivial⟩ rfl trivial (by rw [hfin]; exact (ent_take 0 rfl (ent_take 1 rfl (ent_nil _))))
 ·have hkl : k < n := by omega
  refine zz [7,0,0,1,3,3,36,29] ?_
  refine q rfl rfl (capR 263 2 rfl rfl) ?_
  refine zz [107,2] ?_
  first | refine TC.condD rfl (fun hcap => ?_) (fun hcap => ?_) | refine TC.cond rfl (fun hcap => ?_) (fun hcap => ?_)
  ·have hcap2 : cap < k + (n + 1 - k) := by omega
   have hzl : (List.replicate (n + 1 - k) [Value.pointer none, Value.int .i64 0]).flatten.length = (n + 1 - k) * 2 := by simp
   refine zz [0,1,29,3] ?_
   refine q rfl rfl (slTn 263 2 k rfl rfl rfl rfl (by omega)) ?_
   refine zz [3,3,36,3] ?_
   refine q rfl rfl (OQ.to (v := ((n + 1 - k : Nat) : Int)) (subI rfl rfl (by omega) (by omega)) (by omega)) ?_
   refine e rfl ?_
   refine apz (E := 263) (sz := 2) (i := k) (k := n + 1 - k) (cs := cs) (z0 := .agg #[.pointer none, .int .i64 0]) (zs := (List.replicate (n + 1 - k) [Value.pointer none, Value.int .i64 0]).flatten) 16 rfl rfl rfl rfl rfl rfl (by omega) (by omega) (by decide) (by omega) (by omega) (by simp only [maxLen]; omega) rfl ?_
   intro b8 cap8
   have e2 : k + (n + 1 - k) = n + 1 := by omega
   rw [e2]
   refine zz [35,2,0] ?_
   haveI : OffI cs cap k 2 := ⟨n, hc, by omega, hcn⟩
   have hvo : (vs.take (1 * 2)).all Value.oneCell' = true := by rw [List.take_of_length_le (by omega)]; exact h2
   have hdo : ((cs.drop (k * 2)).take ((n - k) * 2)).all Value.oneCell' = true := by rw [List.all_eq_true] at h1 ⊢; exact fun v hv => h1 v (List.mem_of_mem_drop (List.mem_of_mem_take hv))
   have hdl : (cs.drop (k * 2)).length = (n - k) * 2 := by rw [List.length_drop, hc, Nat.sub_mul]
   have hfin := ins_grow hc hzl hv hkl
   refine zz [1,29,3,214,29,5] ?_
   refine cpyAt (n := n + 1) (j := k) 1 rfl rfl rfl (by omega) (by omega) (show min _ _ = _ from by omega) (by decide) hvo rfl ?_
   refine zz [2,0,243,102,33,33,161] ?_
   refine dq rfl rfl rfl (slFn 263 2 (k + 1) rfl rfl rfl (by omega) (by omega)) ?_
   refine zz [102,33] ?_
   refine dq rfl rfl rfl (slFn 263 2 k rfl rfl rfl rfl (by omega)) ?_
   refine de rfl rfl ?_
   refine cpyAt (n := n + 1) (j := k + 1) (n - k) rfl rfl rfl (by omega) (by rw [hdl]; exact Nat.le_refl _) (show min _ _ = _ from by omega) (by decide) hdo hfin ?_
   refine zz [8,27,0,1,29,35,2,51] ?_
   exact Ret.i (some ⟨b8, 0, none⟩, cap8) [_] ⟨rfl, trivial⟩ rfl trivial entS
  ·have hroom : n + 1 ≤ cap := by omega
   refine zz [7,0,1,29,3,3] ?_
   refine q rfl rfl (OQ.to (v := ((n + 1 : Nat) : Int)) (addI rfl rfl (by omega) (by omega)) (by omega)) ?_
   refine q rfl rfl (slTn 263 2 (n + 1) rfl rfl rfl rfl (by omega)) ?_
   refine zz [35,2,0,0] ?_
   refine TC.weak (ent_at 0 rfl (slc_room (m := 1) hroom) (ent_all _)) ?_
   refine TC.open 0 rfl (fun x0 hx0 => ?_)
   obtain es := x0
   have hes := hx0
   refine zz [44] ?_
   haveI : OffI (cs ++ x0) cap k 2 := ⟨n + 1, by rw [List.length_append, hc, hx0]; omega, by omega, hroom⟩
   have hvt : vs.take (1 * 2) = vs := List.take_of_length_le (by omega)
   have hpl := ins_place hc hx0 hv hkl
   have hdt : ((cs ++ x0).drop (k * 2)).take ((n - k) * 2) = cs.drop (k * 2) := by
    rw [List.drop_append_of_le_length (by omega), List.take_append_of_le_length (by rw [List.length_drop]; omega), List.take_of_length_le (by rw [List.length_drop]; omega)]
   have hdo : (((cs ++ x0).drop (k * 2)).take ((n - k) * 2)).all Value.oneCell' = true := by rw [hdt]; rw [List.all_eq_true] at h1 ⊢; exact fun v hv => h1 v (List.mem_of_mem_drop hv)
   have hdl : ((cs ++ x0).drop (k * 2)).length = (n + 1 - k) * 2 := by rw [List.length_drop, List.length_append, hc, hx0]; omega
   have hpos : 0 < (cs ++ x0).length := by rw [List.length_append]; omega
   refine zz [1,29,29,3,3] ?_
   refine q rfl rfl (OQ.to (v := ((k + 1 : Nat) : Int)) (addI rfl rfl (by omega) (by omega)) (by omega)) ?_
   refine q rfl rfl (slFn 263 2 (k + 1) rfl rfl rfl rfl (by omega)) ?_
   refine e rfl ?_
   refine ovl (S := 259) (R := 4) (n2 := n + 1) (c2 := cap) (j := k + 1) Tryz.func180 (by kernel_rfl) (by kernel_rfl) (by kernel_rfl) (by kernel_rfl) rfl rfl 1 rfl ⟨0, rfl⟩ (by omega) hpos (by omega) ?_
   refine zz [64,2,40,0,243,102,33,33] ?_
   refine dq rfl rfl rfl (OQ.to (v := ((k + 1 : Nat) : Int)) (addI rfl rfl (by omega) (by omega)) (by omega)) ?_
   refine zz [242,102,33] ?_
   refine dq rfl rfl rfl (slFn 263 2 k rfl rfl rfl rfl (by omega)) ?_
   refine de rfl rfl ?_
   refine cpyAt (n := n + 1) (j := k + 1) (n - k) rfl rfl rfl (by omega) (by rw [hdl]; exact Nat.le_refl _) (show min _ _ = _ from by omega) (by decide) hdo rfl ?_
   refine zz [8,27,0,1,29,3,214,29,5] ?_
   refine cpyAt (n := n + 1) (j := k) 1 rfl rfl rfl (by omega) (by omega) (show min _ _ = _ from by omega) (by decide) (by rw [hvt]; exact h2) (by rw [hvt, hpl]) ?_
   refine zz [2,0,1,29,35,2,51] ?_
   exact Ret.i (ad, cap) [_] ⟨rfl, trivial⟩ rfl trivial entS
structure CaRep where
  B : Nat → Nat
  ad : Option Addr
  cap : Nat
structure COK (sz : Nat) (L : List Pg) : Prop where
  zb : 16 ≤ sz ∧ sz ≤ 512
  inv : CInv (960 / sz) L
  pn : ∀ p ∈ L, p.pn < 1048576
def isCa (b bd sz : Nat) (L : List Pg) : HP := EX fun y : CaRep => pure' (COK sz L) (sepL [pts b 261 [.pointer (some ⟨bd, 0, none⟩), .int .i64 (sz : Int), .slice y.ad L.length y.cap], slc 263 2 y.ad L.length y.cap (pgC y.B L), bigS (fun p : Pg => isBm (y.B p.pn) (960 / sz) p.f) L])
theorem COK.many {sz : Nat} {L : List Pg} (h : COK sz L) : 1 ≤ 960 / sz ∧ 960 / sz ≤ 60 ∧ 960 / sz * sz ≤ 960 := by
 obtain ⟨h1, h2⟩ := h.zb
 have a1 : 1 ≤ 960 / sz := (Nat.le_div_iff_mul_le (by omega)).2 (by omega)
 have a2 : 960 / sz ≤ 60 := by
  exact Nat.div_le_of_le_mul (by omega)
 exact ⟨a1, a2, Nat.div_mul_le_self 960 sz⟩
theorem COK.place {sz : Nat} {L : List Pg} (h : COK sz L) {i : Nat} (hi : i < 960 / sz) : i * sz + sz ≤ 960 := by
 have h1 := h.many.2.2
 have h2 : (i + 1) * sz ≤ 960 / sz * sz := Nat.mul_le_mul_right _ hi
 rw [Nat.add_mul] at h2; omega
theorem pn_nodup {L : List Pg} (h : L.Pairwise fun a b => a.pn < b.pn) : (L.map (·.pn)).Nodup := by
 rw [List.Nodup, List.pairwise_map]; exact h.imp fun h => by omega
theorem COK.len {sz : Nat} {L : List Pg} (h : COK sz L) : L.length ≤ 1048576 := by
 have := sub_len (pn_nodup h.inv.srt) (m := List.range 1048576) fun x hx => by
  obtain ⟨p, hp, rfl⟩ := List.mem_map.1 hx
  exact List.mem_range.2 (h.pn p hp)
 rw [List.length_range, List.length_map] at this; exact this
theorem at_split {L : List Pg} {k : Nat} {p : Pg} (h : L[k]? = some p) : L = L.take k ++ p :: L.drop (k + 1) := by
 obtain ⟨h1, h2⟩ := List.getElem?_eq_some_iff.1 h
 rw [← h2, ← List.drop_eq_getElem_cons h1, List.take_append_drop]
theorem pgC_same (B : Nat → Nat) {L : List Pg} {k pn : Nat} {f : Nat → Bool} (g : Nat → Bool) (h : L[k]? = some ⟨pn, f⟩) : pgC B (L.take k ++ ⟨pn, g⟩ :: L.drop (k + 1)) = pgC B L := by
 conv => rhs; rw [at_split h]
 rw [pgC_app, pgC_app]; rfl
theorem len_same {L : List Pg} {k : Nat} {p : Pg} (r : Pg) (h : L[k]? = some p) : (L.take k ++ r :: L.drop (k + 1)).length = L.length := by
 have := (List.getElem?_eq_some_iff.1 h).1
 simp; omega
theorem pn_same {L : List Pg} {k pn : Nat} {f : Nat → Bool} (g : Nat → Bool) (h : L[k]? = some ⟨pn, f⟩) : (L.take k ++ (⟨pn, g⟩ : Pg) :: L.drop (k + 1)).map (·.pn) = L.map (·.pn) := by
 conv => rhs; rw [at_split h]
 simp
theorem pg_fst {B : Nat → Nat} {L : List Pg} {k : Nat} {p : Pg} (h : L[k]? = some p) : (pgC B L)[k * 2 + 0]? = some (.pointer (some ⟨(B p.pn), 0, none⟩)) := flat_get (pgV_sz B) h rfl
theorem pgC_ext {B C : Nat → Nat} : ∀ {L : List Pg}, (∀ q ∈ L, B q.pn = C q.pn) → pgC B L = pgC C L
 | [], _ => rfl
 | q :: L, h => by
  have ih := pgC_ext (L := L) fun r hr => h r (by simp [hr])
  rw [pgC, pgC] at ih ⊢
  rw [List.flatMap_cons, List.flatMap_cons, ih, pgV, pgV, h q (by simp)]
structure GvR (sz : Nat) (L : List Pg) (pn i : Nat) (y : List Pg × Bool) : Prop where
  gave : Gave (960 / sz) L y.1 pn i
  pn : if y.2 = true then (L.map (·.pn)).Perm (pn :: y.1.map (·.pn)) else y.1.map (·.pn) = L.map (·.pn)
structure TkR (sz top : Nat) (U : List Nat) (L : List Pg) (y : Nat × Nat × List Pg × Bool) : Prop where
  got : Got (960 / sz) L y.2.2.1 y.1 y.2.1
  pn : if y.2.2.2 = true then (y.2.2.1.map (·.pn)).Perm (y.1 :: L.map (·.pn)) ∧ y.1 ∉ U ∧ y.1 < 2 ^ top else y.2.2.1.map (·.pn) = L.map (·.pn) ∧ y.1 ∈ L.map (·.pn)
  i : y.2.1 < 960 / sz
theorem COK.got {sz pn i : Nat} {L L' : List Pg} (h : COK sz L) (g : Got (960 / sz) L L' pn i) (hp : pn < 1048576) : COK sz L' := by
 refine ⟨h.zb, g.inv h.inv (by have := h.many; omega), fun p hp2 => ?_⟩
 cases g with
 | old A B f h1 h2 h3 h4 =>
  subst h1; subst h2
  rcases List.mem_append.1 hp2 with hp2 | hp2
  ·exact h.pn p (by simp [hp2])
  rcases List.mem_cons.1 hp2 with rfl | hp2
  ·exact hp
  ·exact h.pn p (by simp [hp2])
 | new A B h1 h2 h3 h4 h5 h6 =>
  subst h1; subst h2
  rcases List.mem_append.1 hp2 with hp2 | hp2
  ·exact h.pn p (by simp [hp2])
  rcases List.mem_cons.1 hp2 with rfl | hp2
  ·exact hp
  ·exact h.pn p (by simp [hp2])
theorem COK.gave {sz pn i : Nat} {L L' : List Pg} (h : COK sz L) (g : Gave (960 / sz) L L' pn i) : COK sz L' := by
 refine ⟨h.zb, g.inv h.inv, fun p hp2 => ?_⟩
 cases g with
 | stay A B f h1 h2 h3 =>
  subst h1; subst h2
  rcases List.mem_append.1 hp2 with hp2 | hp2
  ·exact h.pn p (by simp [hp2])
  rcases List.mem_cons.1 hp2 with rfl | hp2
  ·exact h.pn ⟨pn, f⟩ (by simp)
  ·exact h.pn p (by simp [hp2])
 | gone A B f h1 h2 h3 h4 =>
  subst h1; subst h2
  exact h.pn p (by rcases List.mem_append.1 hp2 with hp2 | hp2 <;> simp [hp2])
theorem bs_at {L : List Pg} {k : Nat} {p : Pg} (hk : L[k]? = some p) {y : Nat × Bool} (h : BsR L ((p.pn : Int) * 1024) y) (hs : L.Pairwise fun a b => a.pn < b.pn) : y = (k, true) := by
 obtain ⟨h1, h2, h3⟩ := h
 have hl := (List.getElem?_eq_some_iff.1 hk).1
 have e1 : ¬ k < y.1 := fun h => by have := (h2 k p hk).1 h; omega
 have e2 : ¬ y.1 < k := fun h => by
  have hy : y.1 < L.length := by omega
  have := (h2 y.1 L[y.1] (List.getElem?_eq_getElem hy)).2 (by
   have := (List.pairwise_iff_getElem.1 hs) y.1 k hy hl h
   have e := (List.getElem?_eq_some_iff.1 hk).2
   rw [e] at this; omega)
  omega
 have e3 : y.1 = k := by omega
 refine Prod.ext e3 (h3.2 ⟨p, by rw [e3]; exact hk, rfl⟩)
theorem bs_new {L : List Pg} {pn : Nat} {y : Nat × Bool} (h : BsR L ((pn : Int) * 1024) y) (hs : L.Pairwise fun a b => a.pn < b.pn) (hn : ∀ p ∈ L, p.pn ≠ pn) : (∀ p ∈ L.take y.1, p.pn < pn) ∧ ∀ p ∈ L.drop y.1, pn < p.pn := by
 obtain ⟨h1, h2, h3⟩ := h
 constructor
 ·intro p hp
  obtain ⟨k, hk⟩ := List.getElem?_of_mem hp
  rw [List.getElem?_take] at hk
  split at hk
  ·rename_i hky; have := (h2 k p hk).1 hky; omega
  ·cases hk
 ·intro p hp
  obtain ⟨k, hk⟩ := List.getElem?_of_mem hp
  rw [List.getElem?_drop] at hk
  have h5 : ¬ (y.1 + k < y.1) := by omega
  rw [h2 _ p hk] at h5
  have := hn p (List.mem_of_mem_drop hp)
  omega
theorem slnew_ok (bd sz : Nat) (h : (16 ≤ sz ∧ sz ≤ 512) ∧ sz % 16 = 0) : FSpec Tryz.prog 71 [.pointer (some ⟨bd, 0, none⟩), .int .i64 (sz : Int)] noRd [] (fun b : Nat => .pointer (some ⟨b, 0, none⟩)) (fun _ => True) (fun b => [isCa b bd sz []]) := by
 refine fI Tryz.func71 Tryz.ntmps71 ?_
 intro F _
 refine zz [37,0,1,24,2,0,0,1,6,34,20,32,88,19,20] ?_
 refine TL.known 11 rfl (c := false) (decide_eq_false (by omega)) ?_
 refine zz [32,84,19,20] ?_
 refine TL.known 15 rfl (c := false) (decide_eq_false (by omega)) ?_
 refine zz [32,209,92,19,2] ?_
 refine TC.condD rfl (fun hc1 => absurd hc1 (by omega)) (fun hc1 => ?_)
 refine zz [7,0,1,6,3] ?_
 first | refine q rfl rfl (bld (cs := [.pointer _, .int _ _, .slice _ _ _]) rfl) ?_ | refine q rfl rfl (bld (cs := [_, _, _]) rfl) ?_
 refine e rfl ?_
 refine bx (v := .agg #[_, _, _]) (l := [.pointer _, .int _ _, .slice _ _ _]) rfl rfl ?_
 intro b1
 refine zz [24,2,11] ?_
 exact Ret.i b1 [_] ⟨rfl, trivial⟩ rfl trivial ((slc_nil 263 2 _).trans ((bigS_nil (f := fun p : Pg => isBm 0 (960 / sz) p.f) _).trans (ent_close (⟨fun _ => 0, none, 0⟩ : CaRep) ⟨h.1, ⟨List.Pairwise.nil, fun _ h => (by cases h)⟩, fun _ h => (by cases h)⟩ (ent_take 2 rfl (ent_take 1 rfl (ent_take 0 rfl (ent_take 0 rfl (ent_nil _))))))))
theorem slnew_nil (bd : Nat) : FSpec Tryz.prog 71 [.pointer (some ⟨bd, 0, none⟩), .int .i64 0] noRd [] (fun _ : Unit => .pointer none) (fun _ => True) (fun _ => []) := by
 refine fI Tryz.func71 Tryz.ntmps71 ?_
 intro F _
 refine zz [37,0,1,24,2,0,0,1,6,34,20,32,88,19,20] ?_
 refine TL.known 11 rfl (c := true) (decide_eq_true (by omega)) ?_
 refine zz [22,22,19,20,22,22,22,19,2,40,0,1,24,2,51] ?_
 exact zc2
theorem slmany_ok (b bd sz : Nat) (v : Value) (h : 16 ≤ sz ∧ sz ≤ 512) : FSpec Tryz.prog 123 [.pointer (some ⟨b, 0, none⟩)] noRd [pts b 261 [.pointer (some ⟨bd, 0, none⟩), .int .i64 (sz : Int), v]] (fun _ : Unit => .int .i64 ((960 / sz : Nat) : Int)) (fun _ => True) (fun _ => [pts b 261 [.pointer (some ⟨bd, 0, none⟩), .int .i64 (sz : Int), v]]) := by
 refine fI Tryz.func123 Tryz.ntmps123 ?_
 intro F _
 refine zz [39,0,1,4,2,0,0,1,6,34,2,10,7,0,1,6,13,47,12] ?_
 refine q rfl rfl (OQ.to (v := ((960 / sz : Nat) : Int)) (quoI rfl rfl (by omega) (by omega) (by omega)) (by simp)) ?_
 refine zz [4,2,11] ?_
 exact zc1
theorem slplace_ok (b bd sz pn i : Nat) (w : Value) (vb : Nat) (h : i * sz + sz ≤ 960) (hp : pn < 1048576) : FSpec Tryz.prog 122 [.pointer (some ⟨b, 0, none⟩), .agg #[.pointer (some ⟨vb, 0, none⟩), .int .i64 ((pn : Int) * 1024)], .int .i64 (i : Int)] noRd [pts b 261 [.pointer (some ⟨bd, 0, none⟩), .int .i64 (sz : Int), w]] (fun _ : Unit => .int .i64 ((pn * 1024 + 64 + i * sz : Nat) : Int)) (fun _ => True) (fun _ => [pts b 261 [.pointer (some ⟨bd, 0, none⟩), .int .i64 (sz : Int), w]]) := by
 refine fI Tryz.func122 Tryz.ntmps122 ?_
 intro F _
 refine zz [39] ?_
 have e1 : (i : Int) * (sz : Int) = ((i * sz : Nat) : Int) := by simp
 refine zz [0,1,5] ?_
 refine bx (v := .agg #[_, _]) (l := [.pointer _, .int _ _]) rfl rfl ?_
 intro b2
 refine zz [4,2,0] ?_
 refine TC.draw _ [] [(0, false), (1, false), (2, false), (3, false), (4, false), (5, false), (6, false), (7, false), (8, false), (9, false), (10, false)] (by kernel_rfl) (by kernel_rfl) (ent.refl _) ?_
 refine zz [60,18,161,33,28,31,60,18] ?_
 refine dq rfl rfl rfl (OQ.to (v := ((i * sz : Nat) : Int)) (mulI rfl rfl (by omega) (by omega)) (by omega)) ?_
 refine dq rfl rfl rfl (OQ.to (v := ((pn * 1024 + 64 + i * sz : Nat) : Int)) (addI rfl rfl (by omega) (by omega)) (by omega)) ?_
 refine zz [41,27,11] ?_
 exact zc0
theorem slfind_ok (b bd sz : Nat) (B : Nat → Nat) (L : List Pg) (ad : Option Addr) (cap : Nat) (t : Int) (hs : L.Pairwise fun a b => a.pn < b.pn) (hl : L.length ≤ 1048576) : FSpec Tryz.prog 124 [.pointer (some ⟨b, 0, none⟩), .int .i64 t] (fun F => ∃ E, RdS F E ad (pgC B L)) [pts b 261 [.pointer (some ⟨bd, 0, none⟩), .int .i64 (sz : Int), .slice ad L.length cap]] (fun y : Nat × Bool => .tuple #[.int .i64 (y.1 : Int), .bool y.2]) (fun y => BsR L t y) (fun _ => [pts b 261 [.pointer (some ⟨bd, 0, none⟩), .int .i64 (sz : Int), .slice ad L.length cap]]) := by
 refine fI Tryz.func124 Tryz.ntmps124 ?_
 intro F ⟨E, hF⟩
 refine zz [39] ?_
 haveI : RdSI F ad E (pgC B L) := ⟨hF⟩
 refine zz [0,1,4,9,2,0,1,6,13,62,12,3,5] ?_
 refine cl (bsf_ok B L ad cap t hs hl) rfl (picked_nil _) ⟨_, RdSI.rd (ad := ad)⟩ ?_
 intro y hy
 refine zz [66,15,80,4,9,2,11] ?_
 exact Ret.i y [_, _] ⟨rfl, rfl, trivial⟩ rfl hy entS
theorem slspot_ok (b bd sz : Nat) (L : List Pg) (k pn i : Nat) (f : Nat → Bool) (hk : L[k]? = some ⟨pn, f⟩) (hi : f i = true) : FSpec Tryz.prog 183 [.pointer (some ⟨b, 0, none⟩), .int .i64 ((pn * 1024 + 64 + i * sz : Nat) : Int)] noRd [isCa b bd sz L] (fun _ : Unit => .tuple #[.int .i64 (k : Int), .int .i64 (i : Int), .bool true]) (fun _ => True) (fun _ => [isCa b bd sz L]) := by
 refine fI Tryz.func183 Tryz.ntmps183 ?_
 intro F _
 refine zz [39] ?_
 refine TC.open 0 rfl (fun x0 hx0 => ?_)
 obtain ⟨B, ad, cap⟩ := x0
 have hC := hx0
 refine zz [77] ?_
 dsimp only at hC ⊢
 have hil := hC.inv.bd _ (List.mem_of_getElem? hk) i hi
 have hpl := hC.place hil
 have hpn := hC.pn _ (List.mem_of_getElem? hk)
 have hs := hC.zb
 have hm := hC.many
 dsimp only at hpn hil
 have hkl := (List.getElem?_eq_some_iff.1 hk).1
 have hll := hC.len
 have hcl := pgC_len B L
 have hpos : 0 < (pgC B L).length := by omega
 have e1 : (pn * 1024 + 64 + i * sz) / 1024 = pn := by omega
 have e2 : (pn * 1024 + 64 + i * sz) % 1024 = 64 + i * sz := by omega
 have e3 : (i * sz) % sz = 0 := Nat.mul_mod_left _ _
 have e4 : (i * sz) / sz = i := Nat.mul_div_cancel _ (by omega)
 refine zz [0,1,4,4,9,2,0,0,1,6,34,20,32,88,19,2] ?_
 refine TC.condD rfl (fun hc2 => absurd hc2 (by omega)) (fun hc2 => ?_)
 refine zz [7,0,1,6,3] ?_
 refine q rfl rfl (OQ.to (v := (pn : Int)) (quoI rfl rfl (by omega) (by omega) (by omega)) (by omega)) ?_
 refine zz [184,5] ?_
 refine cl (slfind_ok b bd sz B L ad cap ((pn : Int) * 1024) hC.inv.srt hll) rfl PkL.p ⟨_, RdSI.rd (ad := ad)⟩ ?_
 intro y hy
 refine zz [46] ?_
 obtain rfl := bs_at hk hy hC.inv.srt
 dsimp only
 refine zz [26,15,80,4,9,2,0,1,3] ?_
 refine q rfl rfl (OQ.to (v := ((64 + i * sz : Nat) : Int)) (remI rfl rfl (by omega) (by omega)) (by omega)) ?_
 refine q rfl rfl (OQ.to (v := ((i * sz : Nat) : Int)) (subI rfl rfl (by omega) (by omega)) (by omega)) ?_
 refine zz [4,2,0,0] ?_
 refine TC.draw _ [] [(0, false), (1, false), (2, false), (3, false), (4, false), (5, false), (6, false), (7, false), (8, false), (9, false), (10, false), (11, false), (12, false), (13, false), (14, false), (15, false), (16, false), (17, false), (18, false), (19, false), (20, false), (21, false), (22, false), (23, false), (24, false), (25, false), (26, false), (27, false), (28, false), (29, false), (30, true), (31, false), (32, false)] (by kernel_rfl) (by kernel_rfl) (ent_take 0 rfl (ent_take 0 rfl (ent_nil _))) ?_
 refine zz [122,173,122,123] ?_
 refine dg rfl rfl rfl rfl (lss rfl rfl) ?_
 refine zz [109,122] ?_
 refine TD.known 33 rfl (b' := false) (decide_eq_false (by omega)) ?_
 refine zz [123,144,145,244] ?_
 first | refine dg rfl rfl rfl rfl (ld rfl rfl rfl) ?_ | refine dg rfl rfl rfl rfl (ldS rfl rfl (pg_fst hk)) ?_ | refine dg rfl rfl rfl rfl (ldS rfl rfl rfl) ?_
 refine dg rfl rfl rfl rfl (OQ.to (v := (0 : Int)) (remI rfl rfl (by omega) (by omega)) (by rw [show ((i * sz : Nat) : Int) % (sz : Int) = ((i * sz % sz : Nat) : Int) by simp, e3]; rfl)) ?_
 refine dg rfl rfl rfl rfl (neI rfl rfl) ?_
 refine zz [109,122] ?_
 refine TD.known 42 rfl (b' := false) (decide_eq_false (by omega)) ?_
 refine zz [144,145,171] ?_
 first | refine dg rfl rfl rfl rfl (ld rfl rfl rfl) ?_ | refine dg rfl rfl rfl rfl (ldS rfl rfl (pg_fst hk)) ?_ | refine dg rfl rfl rfl rfl (ldS rfl rfl rfl) ?_
 refine zz [123] ?_
 refine dg rfl rfl rfl rfl (ixS (i := k) 263 2 rfl rfl rfl hkl hpos) ?_
 refine zz [130] ?_
 first | refine dg rfl rfl rfl rfl (ld rfl rfl rfl) ?_ | refine dg rfl rfl rfl rfl (ldS rfl rfl (pg_fst hk)) ?_ | refine dg rfl rfl rfl rfl (ldS rfl rfl rfl) ?_
 refine zz [123,144,145,244] ?_
 first | refine dg rfl rfl rfl rfl (ld rfl rfl rfl) ?_ | refine dg rfl rfl rfl rfl (ldS rfl rfl (pg_fst hk)) ?_ | refine dg rfl rfl rfl rfl (ldS rfl rfl rfl) ?_
 refine dg rfl rfl rfl rfl (OQ.to (v := (i : Int)) (quoI rfl rfl (by omega) (by omega) (by omega)) (by rw [show ((i * sz : Nat) : Int) / (sz : Int) = ((i * sz / sz : Nat) : Int) by simp, e4])) ?_
 refine TD.weak (ent_openB 2 rfl (perm_take hk)) ?_
 refine zz [146] ?_
 refine cl (bmget_ok (B pn) (960 / sz) f i (by omega)) rfl PkL.p trivial ?_
 intro _ _
 refine zz [65,8] ?_
 rw [hi]
 refine zz [239,109,27,10,7,0] ?_
 refine TC.draw _ [] [(0, false), (1, false), (2, false), (3, false), (4, false), (5, false), (6, false), (7, false), (8, false), (9, false)] (by kernel_rfl) (by kernel_rfl) (ent.refl _) ?_
 refine zz [33,33,28,31,60] ?_
 first | refine dq rfl rfl rfl (ld rfl rfl rfl) ?_ | refine dq rfl rfl rfl (ldS rfl rfl (pg_fst hk)) ?_ | refine dq rfl rfl rfl (ldS rfl rfl rfl) ?_
 refine dq rfl rfl rfl (OQ.to (v := (i : Int)) (quoI rfl rfl (by omega) (by omega) (by omega)) (by rw [show ((i * sz : Nat) : Int) / (sz : Int) = ((i * sz / sz : Nat) : Int) by simp, e4])) ?_
 refine zz [41,41,124,27,11] ?_
 exact Ret.i () [_, _, _] ⟨rfl, rfl, rfl, trivial⟩ rfl trivial (ent_close (⟨B, ad, cap⟩ : CaRep) hC (ent_take 2 rfl (ent_take 2 rfl (ent_closeB 0 0 ⟨pn, f⟩ rfl rfl rfl (fun _ _ => rfl) (perm_take hk).symm (ent_take 0 rfl (ent_nil _))))))
theorem slhas_ok (b bd sz : Nat) (L : List Pg) (k pn i : Nat) (f : Nat → Bool) (hk : L[k]? = some ⟨pn, f⟩) (hi : f i = true) : FSpec Tryz.prog 182 [.pointer (some ⟨b, 0, none⟩), .int .i64 ((pn * 1024 + 64 + i * sz : Nat) : Int)] noRd [isCa b bd sz L] (fun _ : Unit => .bool true) (fun _ => True) (fun _ => [isCa b bd sz L]) := by
 refine fI Tryz.func182 Tryz.ntmps182 ?_
 intro F _
 refine zz [39,0,1,9,2,0,1,6,3,5] ?_
 refine cl (slspot_ok b bd sz L k pn i f hk hi) rfl PkL.p trivial ?_
 intro _ _
 refine zz [66,26,15,15,80,4,4,9,2,0,1,20,9,2,11] ?_
 exact zc1
set_option maxHeartbeats 1000000 in
theorem sltake_ok (b bd top sz : Nat) (L : List Pg) (U : List Nat) (ht : top ≤ 20) (hU : U.length < 2 ^ top) (hLU : ∀ q ∈ L, q.pn ∈ U) : FSpec Tryz.prog 74 [.pointer (some ⟨b, 0, none⟩)] GV [isCa b bd sz L, isBd bd top U] (fun y : Nat × Nat × List Pg × Bool => .tuple #[.int .i64 ((y.1 * 1024 + 64 + y.2.1 * sz : Nat) : Int), .int .i64 0]) (fun y => TkR sz top U L y) (fun y => [isCa b bd sz y.2.2.1, isBd bd top (if y.2.2.2 = true then y.1 :: U else U)]) := by
 refine fI Tryz.func74 Tryz.ntmps74 ?_
 intro F hF
 refine zz [44] ?_
 haveI : GVI F := ⟨hF⟩
 refine TC.open 0 rfl (fun x0 hx0 => ?_)
 obtain ⟨B, ad, cap⟩ := x0
 have hC := hx0
 refine zz [95] ?_
 dsimp only at hC ⊢
 have hs := hC.zb
 have hm := hC.many
 have hll := hC.len
 have hcl := pgC_len B L
 have hco := pgC_one B L
 refine zz [0,1,4,4,2,0,0,1,6,34,2,10,7,0,0,1,6,13,62,12,148,3,2,17] ?_
 refine TC.loop (ι := Nat) (fun j => j ≤ L.length ∧ ∀ k2 q2, k2 < j → L[k2]? = some q2 → fullP (960 / sz) q2) (fun j => [(0, .pointer (some ⟨b, 0, none⟩)), (17, .slice ad L.length cap), (18, .int .i64 L.length), (19, .int .i64 ((j : Nat) : Int))]) (fun j => sepL [pts b 261 [.pointer (some ⟨bd, 0, none⟩), .int .i64 (sz : Int), .slice ad L.length cap], slc 263 2 ad L.length cap (pgC B L), bigS (fun p : Pg => isBm (B p.pn) (960 / sz) p.f) L, isBd bd top U, F]) (fun j => L.length - j) 0 ⟨Nat.zero_le _, fun k2 q2 h => absurd h (Nat.not_lt_zero _)⟩ ⟨rfl, rfl, rfl, rfl, trivial⟩ (ent_take 0 rfl (ent_take 0 rfl (ent_take 0 rfl (ent_take 0 rfl (ent_take 0 rfl (ent_nil _)))))) ?_
 rintro j ⟨hj, hno⟩ ρ0
 dsimp only [updL] at hj hno ⊢
 refine zz [0,1,38,2,0] ?_
 first | refine TC.condD rfl (fun hlt => ?_) (fun hlt => ?_) | refine TC.cond rfl (fun hlt => ?_) (fun hlt => ?_)
 ·have hlt2 : j < L.length := by omega
  obtain ⟨⟨pn, f⟩, hk⟩ : ∃ p2, L[j]? = some p2 := ⟨L[j], List.getElem?_eq_getElem hlt2⟩
  have hpos : 0 < (pgC B L).length := by omega
  have hpn := hC.pn _ (List.mem_of_getElem? hk)
  dsimp only at hpn
  refine zz [7,0,17,0,1,211] ?_
  first | refine q rfl rfl (ldN (vs := [_, _]) 2 rfl rfl rfl rfl) ?_ | refine q rfl rfl (ldSN (vs := [_, _]) 2 rfl rfl (pgC_rec hk) rfl (by decide)) ?_ | refine q rfl rfl (ldSN (vs := [_, _]) 2 rfl rfl rfl rfl (by decide)) ?_
  refine e rfl ?_
  refine al (l := [.pointer _, .int _ _]) rfl rfl ?_
  intro b3
  refine zz [21,67,2,0,1,14] ?_
  first | refine q rfl rfl (ld rfl rfl rfl) ?_ | refine q rfl rfl (ldS rfl rfl (pgC_rec hk)) ?_ | refine q rfl rfl (ldS rfl rfl rfl) ?_
  refine TL.weak (ent_openB 3 rfl (perm_take hk)) ?_
  refine e rfl ?_
  refine cl (bmfirst_ok (B pn) (960 / sz) f false 0 (by omega) (by omega)) rfl PkL.p GVI.gv ?_
  intro y hy
  refine zz [49] ?_
  cases y with
  | none => ?_
  | some i => ?_
  ·have hy : NoFst f false (960 / sz) 0 := hy
   dsimp only [optI]
   refine zz [4,2,0,1,3,111,2,10,42,1,36,3,2] ?_
   exact ⟨rfl, (j + 1), ⟨by omega, fun k2 q2 h2 hq2 => by
    by_cases e : k2 = j
    ·subst e; rw [hk] at hq2; cases hq2; intro i2 hi2; have := hy i2 (Nat.zero_le _) hi2; simpa using this
    ·exact hno k2 q2 (by omega) hq2⟩, (by omega), ⟨rfl, rfl, rfl, rfl, trivial⟩, (ent_take 3 rfl (ent_take 3 rfl (ent_closeB 0 0 ⟨pn, f⟩ rfl rfl rfl (fun _ _ => rfl) (perm_take hk).symm (ent_take 1 rfl (ent_take 1 rfl (ent_nil _))))))⟩
  ·have hy : IsFst f false (960 / sz) 0 i := hy
   dsimp only [optI]
   have hin := hy.2.1
   have hif := hy.2.2.1
   have hpl := hC.place hin
   have hsf : setF f i true = flipB f i := setF_flip (by rw [hif]; decide)
   have hgot : Got (960 / sz) L (L.take j ++ ⟨pn, flipB f i⟩ :: L.drop (j + 1)) pn i := .old _ _ f (at_split hk) rfl hif hin
   refine zz [4,2,0,1,3,111,2] ?_
   refine TC.condD rfl (fun hc3 => ?_) (fun hc3 => absurd (by omega) hc3)
   refine zz [0,1,14] ?_
   first | refine q rfl rfl (ld rfl rfl rfl) ?_ | refine q rfl rfl (ldS rfl rfl (pgC_rec hk)) ?_ | refine q rfl rfl (ldS rfl rfl rfl) ?_
   refine zz [3,5,72] ?_
   intro b4
   refine e rfl ?_
   refine cl (bmset_ok (B pn) (960 / sz) f i true (some ⟨b4, 0, none⟩) 1 hin (by omega)) rfl PkL.p ⟨_, RdSI.rd (ad := some ⟨b4, 0, none⟩)⟩ ?_
   intro _ _
   refine zz [53,2,0,1,6] ?_
   first | refine q rfl rfl (ldN (vs := [_, _]) 2 rfl rfl rfl rfl) ?_ | refine q rfl rfl (ldSN (vs := [_, _]) 2 rfl rfl (pgC_rec hk) rfl (by decide)) ?_ | refine q rfl rfl (ldSN (vs := [_, _]) 2 rfl rfl rfl rfl (by decide)) ?_
   refine zz [3,5] ?_
   refine cl (slplace_ok b bd sz pn i (.slice ad L.length cap) (B pn) hpl hpn) rfl PkL.p trivial ?_
   intro _ _
   refine zz [53,4,4,2,143] ?_
   rw [hsf]
   have hC2 := hC.got hgot hpn
   exact Ret.i (pn, i, L.take j ++ ⟨pn, flipB f i⟩ :: L.drop (j + 1), false) [_, _] ⟨rfl, rfl, trivial⟩ rfl ⟨hgot, ⟨pn_same _ hk, List.mem_map.2 ⟨_, List.mem_of_getElem? hk, rfl⟩⟩, hin⟩ (ent_close (⟨B, ad, cap⟩ : CaRep) hC2 (by dsimp only; rw [len_same _ hk, pgC_same _ _ hk]; exact (ent_take 0 rfl (ent_take 4 rfl (ent_closeB 0 1 ⟨pn, flipB f i⟩ rfl rfl rfl (fun _ _ => rfl) List.perm_middle.symm entS)))))
 ·refine TC.factSlc 1 rfl (fun _ hcn hcm => ?_)
  obtain rfl : j = L.length := by omega
  have hfull : ∀ q2 ∈ L, fullP (960 / sz) q2 := fun q2 h => by
   obtain ⟨k2, h2⟩ := List.getElem?_of_mem h
   exact hno k2 q2 (List.getElem?_eq_some_iff.1 h2).1 h2
  refine zz [50,0,1,6,13,14,12,5] ?_
  refine cl (bdtake_ok bd top U hU) rfl PkL.p GVI.gv ?_
  intro pn hpn
  refine zz [57] ?_
  obtain ⟨hpl, hpU⟩ := hpn
  have hpt := pow_top (k := 0) ht
  rw [Nat.sub_zero] at hpt
  have hpb : pn < 1048576 := by omega
  have hnp : ∀ q ∈ L, q.pn ≠ pn := fun q hq e => hpU (e ▸ hLU q hq)
  have e9 : setF (fun _ => false) 0 true = fun j => decide (j = 0) := by
   funext x; rw [setF]; split
   ·rename_i e; exact (decide_eq_true e).symm
   ·rename_i e; exact (decide_eq_false e).symm
  refine zz [26,15,15,4,4,2,0,0,1,3,23,2,10,7,0,1,6,5] ?_
  refine cl (slmany_ok b bd sz (.slice ad L.length cap) hs) rfl PkL.p trivial ?_
  intro _ _
  refine zz [57,5] ?_
  refine cl (bmnew_ok (960 / sz) (by omega)) rfl (picked_nil _) trivial ?_
  intro vb _
  refine zz [69,3,245,5] ?_
  refine al (l := [.pointer _, .int _ _]) rfl rfl ?_
  intro b5
  refine zz [21,67,2,0,1,14,12,5,72] ?_
  intro b6
  refine e rfl ?_
  refine cl (bmset_ok vb (960 / sz) (fun _ => false) 0 true (some ⟨b6, 0, none⟩) 1 (by omega) (by omega)) rfl PkL.p ⟨_, RdSI.rd (ad := some ⟨b6, 0, none⟩)⟩ ?_
  intro _ _
  refine zz [53,2,0,1,6,3,5] ?_
  refine cl (slfind_ok b bd sz B L ad cap ((pn : Int) * 1024) hC.inv.srt hll) rfl PkL.p ⟨_, RdSI.rd (ad := ad)⟩ ?_
  intro y hy
  refine zz [53] ?_
  obtain ⟨hlo, hhi⟩ := bs_new hy hC.inv.srt hnp
  have hyl := hy.1
  clear hy
  generalize y.2 = y2
  generalize y.1 = y1 at *
  refine zz [26,15,80,4,9,2,0] ?_
  refine TC.draw _ [11] [(0, false), (1, false), (2, false), (3, false), (4, false), (5, false), (6, false), (7, true), (8, true), (9, false), (10, false), (11, true)] (by kernel_rfl) (by kernel_rfl) (ent_take 0 rfl (ent_take 2 rfl (ent_nil _))) ?_
  refine zz [28,28,31,58,18,33,103,16] ?_
  refine bs (E := 263) (sz := 2) (cs := [.pointer (some ⟨vb, 0, none⟩), .int .i64 ((pn : Int) * 1024)]) rfl ?_
  intro b77
  refine zz [8,16] ?_
  refine cl (pgins_ok ad (some ⟨b77, 0, none⟩) cap 1 L.length y1 (pgC B L) [.pointer (some ⟨vb, 0, none⟩), .int .i64 ((pn : Int) * 1024)] hyl hll hcl rfl hcn hcm (by omega) hco rfl) rfl PkL.p trivial ?_
  intro z _
  refine zz [100,8,31,58,70,110,27,0,1,6,113,5] ?_
  refine cl (slplace_ok b bd sz pn 0 (.slice z.1 (L.length + 1) z.2) vb (by omega) hpb) rfl (picked_cons 0 rfl (picked_nil _)) trivial ?_
  intro _ _
  refine zz [53,4,4,2,11] ?_
  have hgot : Got (960 / sz) L (L.take y1 ++ ⟨pn, fun j => decide (j = 0)⟩ :: L.drop y1) pn 0 := .new _ _ (List.take_append_drop _ _).symm rfl rfl hfull hlo hhi
  have hC2 := hC.got hgot hpb
  have hLp : (L.take y1 ++ ⟨pn, fun j => decide (j = 0)⟩ :: L.drop y1).length = L.length + 1 := by simp; omega
  have hpm : ((L.take y1 ++ ⟨pn, fun j => decide (j = 0)⟩ :: L.drop y1).map (·.pn)).Perm (pn :: L.map (·.pn)) := by
   rw [List.map_append, List.map_cons]
   refine List.perm_middle.trans (List.Perm.cons _ ?_)
   rw [← List.map_append, List.take_append_drop]
  have hnp2 : ∀ q ∈ L, (fun x => if x = pn then vb else B x) q.pn = B q.pn := fun q hq => if_neg (hnp q hq)
  have hBt : ∀ M : List Pg, (∀ q ∈ M, q ∈ L) → pgC B M = pgC (fun x => if x = pn then vb else B x) M := fun M hM => by
   exact pgC_ext fun q hq => (hnp2 q (hM q hq)).symm
  have hcells : (pgC B L).take (y1 * 2) ++ [.pointer (some ⟨vb, 0, none⟩), .int .i64 ((pn : Int) * 1024)] ++ (pgC B L).drop (y1 * 2) = pgC (fun x => if x = pn then vb else B x) (L.take y1 ++ ⟨pn, fun j => decide (j = 0)⟩ :: L.drop y1) := by
   rw [pgC_take, pgC_drop, pgC_app, hBt _ (fun q hq => List.mem_of_mem_take hq), hBt _ (fun q hq => List.mem_of_mem_drop hq), List.append_assoc]
   congr 1
   rw [pgC, pgC, List.flatMap_cons, pgV, if_pos rfl]
  have hAx : isBm vb (960 / sz) (setF (fun _ => false) 0 true) = (fun p : Pg => isBm ((fun x => if x = pn then vb else B x) p.pn) (960 / sz) p.f) ⟨pn, fun j => decide (j = 0)⟩ := by dsimp only; rw [if_pos rfl, e9]
  have hBx : ∀ q ∈ L, (fun p : Pg => isBm (B p.pn) (960 / sz) p.f) q = (fun p : Pg => isBm ((fun x => if x = pn then vb else B x) p.pn) (960 / sz) p.f) q := fun q hq => by dsimp only; rw [if_neg (hnp q hq)]
  have hPx : ((⟨pn, fun j => decide (j = 0)⟩ : Pg) :: L).Perm (L.take y1 ++ ⟨pn, fun j => decide (j = 0)⟩ :: L.drop y1) := by
   conv => lhs; rw [← List.take_append_drop y1 L]
   exact List.perm_middle.symm
  generalize hG : (fun p : Pg => isBm ((fun x => if x = pn then vb else B x) p.pn) (960 / sz) p.f) = G at hAx hBx
  exact Ret.i (pn, 0, L.take y1 ++ ⟨pn, fun j => decide (j = 0)⟩ :: L.drop y1, true) [_, _] ⟨rfl, rfl, trivial⟩ rfl ⟨hgot, ⟨hpm, hpU, hpl⟩, (by dsimp only; omega)⟩ (ent_close (⟨(fun x => if x = pn then vb else B x), z.1, z.2⟩ : CaRep) hC2 (by dsimp only; rw [hLp, ← hcells, hG]; exact (ent_take 0 rfl (ent_take 0 rfl (ent_closeB 0 3 ⟨pn, fun j => decide (j = 0)⟩ rfl rfl hAx hBx hPx entS)))))
set_option maxHeartbeats 1000000 in
theorem slgive_ok (b bd sz : Nat) (L : List Pg) (k pn i : Nat) (f : Nat → Bool) (hk : L[k]? = some ⟨pn, f⟩) (hi : f i = true) (top : Nat) (U : List Nat) (hpU : pn ∈ U) : FSpec Tryz.prog 131 [.pointer (some ⟨b, 0, none⟩), .int .i64 ((pn * 1024 + 64 + i * sz : Nat) : Int)] noRd [isCa b bd sz L, isBd bd top U] (fun _ : List Pg × Bool => .int .i64 0) (fun y => GvR sz L pn i y) (fun y => [isCa b bd sz y.1, isBd bd top (if y.2 = true then U.erase pn else U)]) := by
 refine fI Tryz.func131 Tryz.ntmps131 ?_
 intro F _
 refine zz [44,0,1,4,2,0,0,1,6,34,2,10,7,0,1,6,3,5] ?_
 refine cl (slspot_ok b bd sz L k pn i f hk hi) rfl PkL.p trivial ?_
 intro _ _
 refine zz [43,26,15,15,80,4,4,9,2,0,0,1,20,64,2,10] ?_
 refine TC.open 0 rfl (fun x0 hx0 => ?_)
 obtain ⟨B, ad, cap⟩ := x0
 have hC := hx0
 refine zz [95] ?_
 dsimp only at hC ⊢
 refine TC.factSlc 1 rfl (fun _ hcn hcm => ?_)
 have hil := hC.inv.bd _ (List.mem_of_getElem? hk) i hi
 have hpn := hC.pn _ (List.mem_of_getElem? hk)
 have hm := hC.many
 dsimp only at hpn hil
 have hkl := (List.getElem?_eq_some_iff.1 hk).1
 have hll := hC.len
 have hcl := pgC_len B L
 have hco := pgC_one B L
 have hpos : 0 < (pgC B L).length := by omega
 have hsf : setF f i false = flipB f i := setF_flip (by rw [hi]; decide)
 refine zz [7,0,1,6,13,62] ?_
 first | refine q rfl rfl (ld rfl rfl rfl) ?_ | refine q rfl rfl (ldS rfl rfl (pgC_rec hk)) ?_ | refine q rfl rfl (ldS rfl rfl rfl) ?_
 refine zz [3,211] ?_
 first | refine q rfl rfl (ldN (vs := [_, _]) 2 rfl rfl rfl rfl) ?_ | refine q rfl rfl (ldSN (vs := [_, _]) 2 rfl rfl (pgC_rec hk) rfl (by decide)) ?_ | refine q rfl rfl (ldSN (vs := [_, _]) 2 rfl rfl rfl rfl (by decide)) ?_
 refine e rfl ?_
 refine al (l := [.pointer _, .int _ _]) rfl rfl ?_
 intro b7
 refine zz [21,67,2,0,1,14] ?_
 first | refine q rfl rfl (ld rfl rfl rfl) ?_ | refine q rfl rfl (ldS rfl rfl (pgC_rec hk)) ?_ | refine q rfl rfl (ldS rfl rfl rfl) ?_
 refine zz [3,5,72] ?_
 intro b8
 refine TL.weak (ent_openB 4 rfl (perm_take hk)) ?_
 refine e rfl ?_
 refine cl (bmset_ok (B pn) (960 / sz) f i false (some ⟨b8, 0, none⟩) 1 hil (by omega)) rfl PkL.p ⟨_, RdSI.rd (ad := some ⟨b8, 0, none⟩)⟩ ?_
 intro _ _
 refine zz [53] ?_
 rw [hsf]
 refine zz [2,0,0,1,14] ?_
 first | refine q rfl rfl (ld rfl rfl rfl) ?_ | refine q rfl rfl (ldS rfl rfl (pgC_rec hk)) ?_ | refine q rfl rfl (ldS rfl rfl rfl) ?_
 refine e rfl ?_
 refine cl (bmcount_ok (B pn) (960 / sz) (flipB f i) (by omega)) rfl PkL.p trivial ?_
 intro c hc
 refine zz [53,30,2] ?_
 first | refine TC.condD rfl (fun h0 => ?_) (fun h0 => ?_) | refine TC.cond rfl (fun h0 => ?_) (fun h0 => ?_)
 ·have hz : ∀ j, flipB f i j = false := hc.1 (by omega)
  have hgv : Gave (960 / sz) L (L.take k ++ L.drop (k + 1)) pn i := .gone _ _ f (at_split hk) rfl hi fun j _ hj => by have := hz j; rwa [flipB, if_neg hj] at this
  have hC2 := hC.gave hgv
  have hLl : (L.take k ++ L.drop (k + 1)).length = L.length - 1 := by simp; omega
  have hcells : (pgC B L).take (k * 2) ++ (pgC B L).drop ((k + 1) * 2) = pgC B (L.take k ++ L.drop (k + 1)) := by rw [pgC_take, pgC_drop, pgC_app]
  have hpm : (L.map (·.pn)).Perm (pn :: (L.take k ++ L.drop (k + 1)).map (·.pn)) := by
   have := (perm_take hk).map (·.pn)
   rwa [List.map_cons] at this
  refine TC.seq ?_
  refine TC.draw _ [] [(0, false), (1, false), (2, false), (3, false), (4, false), (5, false), (6, true)] (by kernel_rfl) (by kernel_rfl) (ent_take 3 rfl (ent_take 3 rfl (ent_nil _))) ?_
  refine zz [28,31,25] ?_
  first | refine dq rfl rfl rfl (ld rfl rfl rfl) ?_ | refine dq rfl rfl rfl (ldS rfl rfl (pgC_rec hk)) ?_ | refine dq rfl rfl rfl (ldS rfl rfl rfl) ?_
  refine zz [60] ?_
  first | refine dq rfl rfl rfl (ld rfl rfl rfl) ?_ | refine dq rfl rfl rfl (ldS rfl rfl (pgC_rec hk)) ?_ | refine dq rfl rfl rfl (ldS rfl rfl rfl) ?_
  refine de rfl rfl ?_
  refine cl (bdgive_ok bd top U pn hpU) rfl PkL.p trivial ?_
  intro _ _
  refine zz [100,8,27,1,6,6,13,62] ?_
  first | refine q rfl rfl (ld rfl rfl rfl) ?_ | refine q rfl rfl (ldS rfl rfl (pgC_rec hk)) ?_ | refine q rfl rfl (ldS rfl rfl rfl) ?_
  refine zz [3,3,36,5] ?_
  refine cl (pgdel_ok ad cap L.length k (pgC B L) hkl hll hcl hcn hcm hco) rfl PkL.p trivial ?_
  intro _ _
  refine zz [53,13,62,21,110,2,0,1,4,2,11] ?_
  exact Ret.i (L.take k ++ L.drop (k + 1), true) [_] ⟨rfl, trivial⟩ rfl ⟨hgv, hpm⟩ (ent_close (⟨B, ad, cap⟩ : CaRep) hC2 (by dsimp only; rw [hLl, ← hcells]; exact entS))
 ·have hgv : Gave (960 / sz) L (L.take k ++ ⟨pn, flipB f i⟩ :: L.drop (k + 1)) pn i := .stay _ _ f (at_split hk) rfl hi
  have hC2 := hC.gave hgv
  refine zz [7,0,1,4,2,11] ?_
  exact Ret.i (L.take k ++ ⟨pn, flipB f i⟩ :: L.drop (k + 1), false) [_] ⟨rfl, trivial⟩ rfl ⟨hgv, pn_same _ hk⟩ (ent_close (⟨B, ad, cap⟩ : CaRep) hC2 (by dsimp only; rw [len_same _ hk, pgC_same _ _ hk]; exact (ent_take 4 rfl (ent_take 4 rfl (ent_closeB 0 0 ⟨pn, flipB f i⟩ rfl rfl rfl (fun _ _ => rfl) List.perm_middle.symm entS)))))
end Go.Proofs.YtnlgmaibhlicjaaGreatDoor
