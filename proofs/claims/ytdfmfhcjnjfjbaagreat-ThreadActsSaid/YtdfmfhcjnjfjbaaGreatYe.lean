/-
  Proved here: what functions of this program compute, each as a contract over symbolic states, under the premises that each theorem names (most lines printed by a program of the prover).
-/
import Derived.RangeFuncRecord
import Derived.Test.YtdfmfhcjnjfjbaaGreatYd
namespace Go.QM
open Go
def YS (P : Program) (l : Nat) (args : List Value) (A : HP) (R : Bool → HP → Prop) : Prop :=
  ∀ w, sat w A → ∃ fn tmps assign body, (Instr.yield l args.toArray).run P w = .ok (.round l fn tmps assign body) w ∧
    RoundIn Fence.wide 0 P l fn tmps assign body w (fun e w' => ∃ b A', e = .returned (.bool b) ∧ Same w w' ∧ sat w' A' ∧ R b A')
def IterAll (P : Program) (gf : FuncId) (lb : List Value) {α : Type} (encs : α → List Value) (ok : List α → α → Prop) (pre : List HP) {Y : Type} (xs : Y → List α) (φ : Y → Prop) (post : Y → List HP) : Prop :=
  enterT P gf = true ∧ ∀ (l : Nat) (J : List α → HP),
    (∀ bf x G, ok bf x → YS P l (encs x) (sep (J bf) G) (fun b A' => b = true ∧ A' = sep (J (bf ++ [x])) G)) →
    ∀ w, sat w (sep (sepL pre) (J [])) →
      CallsIn Fence.wide 0 P gf (Value.func (.yield l) #[] #[] :: lb).toArray w (fun e w' => ∃ v y, e = .returned v ∧ φ y ∧ Same w w' ∧ sat w' (sep (sepL (post y)) (J (xs y))))
section
variable {r : Option Nat} {P : Program} {N : Nat} {ops : Array Oper} {Q : Post} {ρ : Env} {ds : List Deferred} {A : HP} {K : Value → HP → Prop}
variable {d : Option Tmp} {ty : TypeId} {ps : String} {af : Array Edge} {g : Option (Nat × Bool)}
theorem yld {fo : Operand} {l : Nat} {vs : List Value} {cargs : List Operand} {tys : Array TypeId} (i : Nat) {hs rest : List HP} {B : HP} {R : Bool → HP → Prop} (hY : YS P l vs (sep B (sepL rest)) R)
    (hc : ev ρ fo = .func (.yield l) #[] #[]) (ha : evL ρ cargs = vs) (hp : take1 i hs = some (B, rest)) (k : ∀ b A', R b A' → K (.bool b) A') :
    OW r P ρ ⟨d, .call ⟨.value fo, cargs.toArray, tys⟩, ty, ps, af, g⟩ (sepL hs) K := by
  intro a w he hs'
  refine ⟨fun _ _ => trivial, ?_⟩
  rw [semAt_nd _ (by rfl), he]
  obtain ⟨fn, tmps, assign, body, hy, hR⟩ := hY w (hs'.weak (take1_ent hp))
  have hrun : (execOp (ev ρ) ⟨d, .call ⟨.value fo, cargs.toArray, tys⟩, ty, ps, af, g⟩).run P w = .ok (.round l fn tmps assign body) w := by
    simp [execOp, resolve, hc, Deferred.ofValue, invoke, evL_map, ha, hy]
  rw [hrun]
  refine ⟨FR_depth r, ?_⟩
  refine RoundIn.mono (show RoundIn (FR r) (0 - 1) P l fn tmps assign body w _ from hR) ?_
  rintro e w' ⟨b, A', rfl, s, hs'', hk⟩
  exact ⟨.bool b, A', rfl, s, hs'', k b A' hk⟩
def RetI {α Y : Type} (J : List α → HP) (xs : Y → List α) (φ : Y → Prop) (post : Y → List HP) : Post
  | .ret, _, ds, A | .normal, _, ds, A => ds = [] ∧ ∃ y, φ y ∧ ent A (sepL (J (xs y) :: post y))
  | _, _, _, _ => False
theorem IterAll.intro {gf : FuncId} {lb : List Value} {α : Type} {encs : α → List Value} {ok : List α → α → Prop} {pre : List HP} {Y : Type} {xs : Y → List α} {φ : Y → Prop} {post : Y → List HP} {fn : Func} {c : Code}
 (he : enterT P gf = true) (hf : P.funcs[gf]? = some fn) (hb : fn.body = some c) (hN : fn.ntmps = N) (hl : Nat.ble (lb.length + 1) N = true) (hrs : fn.results = #[])
 (h : ∀ (l : Nat) (J : List α → HP), (∀ bf x G, ok bf x → YS P l (encs x) (sep (J bf) G) (fun b A' => b = true ∧ A' = sep (J (bf ++ [x])) G)) →
  TC none P N c (RetI J xs φ post) (envA (Value.func (.yield l) #[] #[] :: lb)) [] (sepL (J [] :: pre))) : IterAll P gf lb encs ok pre xs φ post := by
 refine ⟨he, fun l J hY w hs => ?_⟩
 have hl' : lb.length + 1 ≤ N := by simpa using hl
 refine callsIn_of_wp hf hb trivial (wpIn_mono (h l J hY _ w ?_ (hs.weak sep_comm)) ?_) rfl
 ·refine ⟨by simp [hN, hl'], fun t => ?_, rfl⟩
  simp only [envA, Array.getD_eq_getD_getElem?, List.getD_eq_getElem?_getD, Array.getElem?_append]
  by_cases ht : t < (Value.func (.yield l) #[] #[] :: lb).length
  ·simp only [List.size_toArray, ht, if_true, List.getElem?_toArray]
  ·simp only [List.size_toArray, ht, if_false]
   rw [List.getElem?_eq_none (by omega)]
   simp only [Option.getD_none, Array.getElem?_replicate]
   split <;> rfl
 ·rintro e a' w' ⟨s, ρ', ds', A', h1, h2, h3⟩
  have hres : (results fn a'.tmps).run P w' = .ok (.tuple #[]) w' := by simp [results, hrs]
  cases e with
  | ret => obtain ⟨hds, y, k3, k4⟩ := h3; exact ⟨by rw [h1.defers, hds], _, hres, _, y, rfl, k3, s, h2.weak (k4.trans sep_comm)⟩
  | normal => obtain ⟨hds, y, k3, k4⟩ := h3; exact ⟨by rw [h1.defers, hds], _, hres, _, y, rfl, k3, s, h2.weak (k4.trans sep_comm)⟩
  | _ => exact h3.elim
def updZ (ρ : Env) : List Nat → List Value → Env
  | p :: ps, v :: vs => updZ (upd ρ p v) ps vs
  | _, _ => ρ
theorem Rep.zip {a : Act} : ∀ (ps : List Nat) (vs : List Value) {ρ : Env} {tmps : Array Value}, Rep N ⟨tmps, []⟩ ρ [] → ps.all (fun p => Nat.blt p N) = true →
    Rep N ⟨(ps.zip vs).foldl (fun t (x : Nat × Value) => t.setIfInBounds x.1 x.2) tmps, []⟩ (updZ ρ ps vs) []
  | [], _, _, _, h, _ => h
  | _ :: _, [], _, _, h, _ => h
  | p :: ps, v :: vs, ρ, tmps, h, hN => by
    simp only [List.all_cons, Bool.and_eq_true] at hN
    simp only [List.zip_cons_cons, List.foldl_cons, updZ]
    exact Rep.zip (a := a) ps vs (Rep.put (d := some p) h hN.1 v) hN.2
theorem sat_put {w : World} {A : HP} {b : Nat} {o : Obj} (o' : Obj) (h : sat w (sep (obj b o) A)) : sat (w.putObj b o') (sep (obj b o') A) := by
  have hb : w.heap[b]? = some o := (Rd_l (Rd_obj b o)).sat h
  exact sat_set h (World.putObj_heap_same (Array.getElem?_eq_some_iff.1 hb).1) (fun i hi => World.putObj_heap_other hi)
theorem Same_put (w : World) (b : Nat) (o : Obj) : Same w (w.putObj b o) := ⟨rfl, rfl, rfl, by simp⟩
theorem TC.rangeF {α Y : Type} {gf : FuncId} {lb : List Value} {go : Operand} {psl : List Nat} {assign body : Code} {hs pre r1 rest : List HP} {encs : α → List Value} {ok : List α → α → Prop} {xs : Y → List α} {φ : Y → Prop} {post : Y → List HP}
    (J : List α → List HP) (iter : IterAll P gf lb encs ok pre xs φ post) (hg : ev ρ go = .func (.func gf) #[] lb.toArray) (hp : Picked hs pre r1) (hJ : Picked r1 (J []) rest)
    (hlen : ∀ x, (encs x).length = psl.length) (hpN : psl.all (fun p => Nat.blt p N) = true)
    (hbody : ∀ (l : Nat) bf x F, ok bf x → TC (some l) P N assign (Thn (fun ρ1 ds1 A1 => ds1 = [] ∧ ent A1 (sepL (J bf ++ [F])) ∧
      ∀ F', TC (some l) P N body (fun e _ ds2 A2 => e = .normal ∧ ds2 = [] ∧ ent A2 (sepL (J (bf ++ [x]) ++ [F']))) ρ1 [] (sepL (J bf ++ [F']))) (fun _ _ _ _ => False)) (updZ ρ psl (encs x)) [] (sepL (J bf ++ [F])))
    (k : ∀ D y, φ y → Q .normal ρ ({ target := .collected D, args := #[] } :: ds) (sepL (post y ++ (J (xs y) ++ (obj D (.deferred (some [])) :: rest))))) :
    TC none P N (.rangeFunc go psl.toArray assign body) Q ρ ds (sepL hs) := by
  intro a w hr hs'
  refine wpIn_rangeFunc ?_
  intro fn _
  obtain ⟨rec, hrec⟩ : ∃ rec : LoopState → Loop, rec = fun st => { state := st, pending := none, fn, tmps := a.tmps, params := psl.toArray, assign, body, defers := w.heap.size } := ⟨_, rfl⟩
  obtain ⟨W1, hW1⟩ : ∃ W1, (w.alloc (.deferred (some []))).alloc (.loop (rec .ready)) = W1 := ⟨_, rfl⟩
  obtain ⟨D, hD⟩ : ∃ D, w.heap.size = D := ⟨_, rfl⟩
  have hsW : sat W1 (sep (obj (D + 1) (.loop (rec .ready))) (sep (obj D (.deferred (some []))) (sepL hs))) := by
    rw [← hW1, ← hD]
    have h1 := sat_alloc (.deferred (some [])) hs'
    have h2 := sat_alloc (.loop (rec .ready)) h1
    rwa [World.size_alloc] at h2
  have hsame : Same w W1 := by rw [← hW1]; exact ⟨rfl, rfl, rfl, by simp only [World.size_alloc]; omega⟩
  let R : HP := sep (obj D (.deferred (some []))) (sepL rest)
  let J' : List α → HP := fun bf => sep (sepL (J bf)) (sep (obj (D + 1) (.loop (rec .ready))) R)
  refine ⟨D + 1, [{ target := .collected D, args := #[] }], W1, { target := .fn (.func gf) lb.toArray, args := #[.func (.yield (D + 1)) #[] #[]] }, W1, gf,
    (Value.func (.yield (D + 1)) #[] #[] :: lb).toArray, W1, ?_, ?_, fun _ _ => trivial, ?_, FR_depth none, ?_⟩
  · rw [← hW1, hrec, ← hD]; exact run_enterLoop_outer _ _ _ _ _
  · have : a.eval go = .func (.func gf) #[] lb.toArray := by rw [hr.eval]; exact hg
    simp only [resolve, this, Deferred.ofValue]; simp [Act.eval]
  · simp [invoke, enterT_run iter.1]
  · have hround : ∀ bf x G, ok bf x → YS P (D + 1) (encs x) (sep (J' bf) G) (fun b A' => b = true ∧ A' = sep (J' (bf ++ [x])) G) := by
      intro bf x G hok w1 hw1
      have hl1 : w1.heap[D + 1]? = some (.loop (rec .ready)) := (Rd_l (Rd_r (Rd_l (Rd_obj _ _)))).sat hw1
      have hy := run_yield (P := P) (args := (encs x).toArray) hl1 (by rw [hrec]; simp [hlen])
      refine ⟨_, _, _, _, hy, roundIn_of_wpIn trivial ?_⟩
      have hfold : (((rec .ready).params.zip (encs x).toArray).foldl (fun tmps (x : Nat × Value) => tmps.setIfInBounds x.1 x.2) (rec .ready).tmps) = (psl.zip (encs x)).foldl (fun t (x : Nat × Value) => t.setIfInBounds x.1 x.2) a.tmps := by
        rw [hrec]; simp
      have hrep : Rep N ⟨((rec .ready).params.zip (encs x).toArray).foldl (fun tmps (x : Nat × Value) => tmps.setIfInBounds x.1 x.2) (rec .ready).tmps, []⟩ (updZ ρ psl (encs x)) [] := by
        rw [hfold]
        exact Rep.zip (a := a) psl (encs x) ⟨hr.size, hr.get, rfl⟩ hpN
      have e1 : ent (sep (J' bf) G) (sepL (J bf ++ [sep (obj (D + 1) (.loop (rec .ready))) (sep R G)])) :=
        sep_assoc.trans ((sep_mono (ent.refl _) sep_assoc).trans sep_last')
      have hb := hbody (D + 1) bf x (sep (obj (D + 1) (.loop (rec .ready))) (sep R G)) hok _ w1 hrep (hw1.weak e1)
      have hasg : (rec .ready).assign = assign := by rw [hrec]
      have hbod : (rec .ready).body = body := by rw [hrec]
      rw [hasg, hbod]
      refine wpIn_mono (show assign.wpIn (Fence.wide.inRound (D + 1)) 0 P _ _ w1 from hb) ?_
      rintro e a2 w2 ⟨s2, ρ2, ds2, A2, hr2, hs2, hq⟩
      cases e with
      | normal =>
        obtain ⟨rfl, he2, hgo⟩ := hq
        have e2 : ∀ st (bf : List α), ent (sepL (J bf ++ [sep (obj (D + 1) (.loop (rec st))) (sep R G)])) (sep (obj (D + 1) (.loop (rec st))) (sep (sepL (J bf)) (sep R G))) := fun st bf => sep_last.trans sep_swap
        have e3 : ∀ st (bf : List α), ent (sep (obj (D + 1) (.loop (rec st))) (sep (sepL (J bf)) (sep R G))) (sepL (J bf ++ [sep (obj (D + 1) (.loop (rec st))) (sep R G)])) := fun st bf => sep_swap.trans sep_last'
        have hs3 := (hs2.weak he2).weak (e2 .ready bf)
        have hl3 : w2.heap[D + 1]? = some (.loop (rec .ready)) := (Rd_l (Rd_obj _ _)).sat hs3
        have hbegin := run_beginRound (P := P) hl3 (by rw [hrec])
        have hbusy : ({ rec .ready with state := .busy } : Loop) = rec .busy := by rw [hrec]
        rw [hbusy] at hbegin
        refine ⟨_, hbegin, ?_⟩
        have hs4 := (sat_put (.loop (rec .busy)) hs3).weak (e3 .busy bf)
        have hb2 := hgo (sep (obj (D + 1) (.loop (rec .busy))) (sep R G)) a2 _ hr2 hs4
        refine wpIn_mono (show body.wpIn (Fence.wide.inRound (D + 1)) 0 P _ _ _ from hb2) ?_
        rintro e a5 w5 ⟨s5, ρ5, ds5, A5, hr5, hs5, hq5⟩
        obtain ⟨rfl, rfl, he5⟩ := hq5
        have hs6 := (hs5.weak he5).weak (e2 .busy (bf ++ [x]))
        have hl6 : w5.heap[D + 1]? = some (.loop (rec .busy)) := (Rd_l (Rd_obj _ _)).sat hs6
        have hend := run_endRound (P := P) none hl6
        have hready : ({ rec .busy with state := if (none : Option Code).isNone then .ready else .done, pending := none } : Loop) = rec .ready := by rw [hrec]; rfl
        rw [hready] at hend
        refine ⟨_, _, hend, true, _, rfl, (s2.trans (Same_put _ _ _)).trans (s5.trans (Same_put _ _ _)), ?_, rfl, rfl⟩
        have hs7 := sat_put (.loop (rec .ready)) hs6
        exact hs7.weak (sep_swap.trans ((sep_mono (ent.refl _) sep_assoc').trans sep_assoc'))
      | _ => exact hq.elim
    have hstart : sat W1 (sep (sepL pre) (J' [])) := by
      refine hsW.weak ?_
      have e0 : ent (sepL hs) (sep (sepL pre) (sep (sepL (J [])) (sepL rest))) := hp.trans (sep_mono (ent.refl _) hJ)
      refine (sep_mono (ent.refl _) (sep_mono (ent.refl _) e0)).trans ?_
      refine (sep_mono (ent.refl _) sep_swap).trans (sep_swap.trans (sep_mono (ent.refl _) ?_))
      exact (sep_mono (ent.refl _) sep_swap).trans sep_swap
    refine CallsIn.mono (iter.2 (D + 1) J' hround W1 hstart) ?_
    rintro e w2 ⟨v, y, rfl, hy, s2, hs2⟩
    have hs3 : sat w2 (sep (obj (D + 1) (.loop (rec .ready))) (sep (sepL (post y)) (sep (sepL (J (xs y))) R))) :=
      hs2.weak ((sep_mono (ent.refl _) sep_swap).trans sep_swap)
    have hl3 : w2.heap[D + 1]? = some (.loop (rec .ready)) := (Rd_l (Rd_obj _ _)).sat hs3
    have hend := run_endLoop (P := P) hl3 (by rw [hrec]; simp)
    have hpend : (rec .ready).pending = none := by rw [hrec]
    rw [hpend] at hend
    refine ⟨none, _, hend, (hsame.trans s2).trans (Same_put _ _ _), ρ, _, _, ⟨hr.size, hr.get, by rw [← hr.defers]; rfl⟩, ?_, k D y hy⟩
    refine ((sat_put _ hs3).weak sep_right).weak ?_
    exact (sep_mono (ent.refl _) (sepL_append (J (xs y)) (obj D (.deferred (some [])) :: rest))).trans (sepL_append _ _)
def RetM (P : Program) (rs : List ResultVar) {Y : Type} (res : Y → Value) (φ : Y → Prop) (post : Y → List HP) (F : HP) : Post
  | .ret, ρ, ds, A | .normal, ρ, ds, A => ∃ y vs D, ds = [{ target := .collected D, args := #[] }] ∧ rs.all (fun x => match x with | .tmp _ => true | _ => false) = true ∧ ResOK P rs vs ρ A ∧ retV vs = res y ∧ φ y ∧ ent A (sepL (obj D (.deferred (some [])) :: (post y ++ [F])))
  | _, _, _, _ => False
theorem ResOK_tmps : ∀ {rs : List ResultVar} {vs : List Value} {A B : HP}, rs.all (fun x => match x with | .tmp _ => true | _ => false) = true → ResOK P rs vs ρ A → ResOK P rs vs ρ B
  | [], [], _, _, _, _ => trivial
  | .tmp t :: rs, v :: vs, _, _, h, x => ⟨x.1, ResOK_tmps (by simpa using h) x.2⟩
  | [], _ :: _, _, _, _, x => x.elim
  | .tmp _ :: _, [], _, _, _, x => x.elim
  | .cell _ _ :: _, _, _, _, h, _ => by simp at h
theorem FSpec.introM {f : FuncId} {fn : Func} {c : Code} {rs : List ResultVar} {args : List Value} {rd : HP → Prop} {pre : List HP} {Y : Type} {res : Y → Value} {φ : Y → Prop} {post : Y → List HP}
    (he : enterT P f = true) (hf : P.funcs[f]? = some fn) (hb : fn.body = some c) (hN : fn.ntmps = N) (hl : Nat.ble args.length N = true) (hrs : fn.results = rs.toArray)
    (h : ∀ F, rd F → TC none P N c (fun e ρ ds A => RetM P rs res φ post F e ρ ds A ∨ Ret P rs res φ post F e ρ ds A) (envA args) [] (sepL (pre ++ [F]))) : FSpec P f args rd pre res φ post := by
  refine ⟨he, fun F hF w hs => ?_⟩
  have hl' : args.length ≤ N := by simpa using hl
  have key : ∀ (e : Exit) (a' : Act) (w' : World) ρ' ds' A', Same w w' → Rep N a' ρ' ds' → sat w' A' → (e = .ret ∨ e = .normal) → (RetM P rs res φ post F e ρ' ds' A' ∨ Ret P rs res φ post F e ρ' ds' A') →
      LeavesInM Fence.wide 0 P fn a'.tmps (fun e w' => ∃ y, e = .returned (res y) ∧ φ y ∧ Same w w' ∧ sat w' (sep (sepL (post y)) F)) a'.defers .returning w' := by
    intro e a' w' ρ' ds' A' s h1 h2 he h3
    rw [h1.defers]
    have h3' : RetM P rs res φ post F .ret ρ' ds' A' ∨ Ret P rs res φ post F .ret ρ' ds' A' := by rcases he with rfl | rfl <;> exact h3
    rcases h3' with ⟨y, vs, D, rfl, k0, k1, k2, k3, k4⟩ | ⟨rfl, y, vs, k1, k2, k3, k4⟩
    · have hs4 := h2.weak k4
      have hl4 : w'.heap[D]? = some (.deferred (some [])) := (Rd_l (Rd_obj _ _)).sat hs4
      refine ⟨by simp, .inl ⟨D, _, rfl, run_takeDeferred hl4, ?_⟩⟩
      have hs5 := (sat_put (.deferred none) hs4).weak sep_right
      exact ⟨_, results_run hrs h1.get hs5 (ResOK_tmps k0 k1), y, by rw [k2], k3, s.trans (Same_put _ _ _), hs5.weak sep_last⟩
    · exact ⟨_, results_run hrs h1.get h2 k1, y, by rw [k2], k3, s, h2.weak (k4.trans sep_last)⟩
  refine callsIn_of_wp_marks hf hb trivial (wpIn_mono (h F hF _ w ?_ (hs.weak sep_last')) ?_) rfl
  · refine ⟨by simp [hN, hl'], fun t => ?_, rfl⟩
    simp only [envA, Array.getD_eq_getD_getElem?, List.getD_eq_getElem?_getD, Array.getElem?_append]
    by_cases ht : t < args.length
    · simp [ht]
    · simp only [List.size_toArray, ht, if_false]
      rw [List.getElem?_eq_none (by omega)]
      simp only [Option.getD_none, Array.getElem?_replicate]
      split <;> rfl
  · rintro e a' w' ⟨s, ρ', ds', A', h1, h2, h3⟩
    cases e with
    | ret => exact key .ret a' w' ρ' ds' A' s h1 h2 (.inl rfl) h3
    | normal => exact key .normal a' w' ρ' ds' A' s h1 h2 (.inr rfl) h3
    | _ => rcases h3 with h3 | h3 <;> exact h3.elim
end
end Go.QM
namespace Go.QM
open Go
theorem ent_close {α : Type} {p : α → Prop} {B : α → List HP} (x : α) (hp : p x) {hs gs : List HP} (h : ent (sepL hs) (sepL (B x ++ gs))) : ent (sepL hs) (sepL (EX (fun x => pure' (p x) (sepL (B x))) :: gs)) :=
  h.trans ((sepL_append' (B x) gs).trans (sep_mono (ent_of_imp fun _ a => ⟨x, hp, a⟩) (ent.refl _)))
theorem ent_takeE (n : Nat) {hs r gs : List HP} {A B : HP} (h : take1 n hs = some (A, r)) (e : A = B) (k : ent (sepL r) (sepL gs)) : ent (sepL hs) (sepL (B :: gs)) := by
  subst e; exact ent_take n h k
theorem ent_takeW (n : Nat) {hs r gs : List HP} {A B : HP} (h : take1 n hs = some (A, r)) (e : ent A B) (k : ent (sepL r) (sepL gs)) : ent (sepL hs) (sepL (B :: gs)) :=
  (take1_ent h).trans (sep_mono e k)
theorem ent_open (n : Nat) {α : Type} {p : α → Prop} {B : α → List HP} {hs r : List HP} (h : take1 n hs = some (EX (fun x => pure' (p x) (sepL (B x))), r)) {w : World} (hw : sat w (sepL hs)) : ∃ x, p x ∧ sat w (sepL (B x ++ r)) := by
  obtain ⟨hh, hx, p', q', dd, rfl, ⟨z, hp, hB⟩, hq⟩ := hw.weak (take1_ent h)
  exact ⟨z, hp, sat.weak ⟨_, hx, p', q', dd, rfl, hB, hq⟩ (sepL_append _ _)⟩
section
variable {r : Option Nat} {P : Program} {N : Nat} {ops : Array Oper} {l : List Oper} {Q : Post} {ρ : Env} {ds : List Deferred} {A I : HP} {K : Value → HP → Prop} {c : Code} {T : List Nat} {co : List (Nat × Bool)}
theorem TC.open (n : Nat) {α : Type} {p : α → Prop} {B : α → List HP} {hs rr : List HP} (h : take1 n hs = some (EX (fun x => pure' (p x) (sepL (B x))), rr)) (k : ∀ x, p x → TC r P N c Q ρ ds (sepL (B x ++ rr))) : TC r P N c Q ρ ds (sepL hs) :=
  fun a w hr hs => let ⟨x, hp, hs'⟩ := ent_open n h hs; k x hp a w hr hs'
theorem TL.open (n : Nat) {α : Type} {p : α → Prop} {B : α → List HP} {hs rr : List HP} (h : take1 n hs = some (EX (fun x => pure' (p x) (sepL (B x))), rr)) (k : ∀ x, p x → TL r P N ops l Q ρ ds (sepL (B x ++ rr))) : TL r P N ops l Q ρ ds (sepL hs) :=
  fun a w hr hs => let ⟨x, hp, hs'⟩ := ent_open n h hs; k x hp a w hr hs'
theorem TD.open (n : Nat) {α : Type} {p : α → Prop} {B : α → List HP} {hs rr : List HP} (h : take1 n hs = some (EX (fun x => pure' (p x) (sepL (B x))), rr)) (k : ∀ x, p x → TD r P N ops I T co Q ρ ds (sepL (B x ++ rr))) : TD r P N ops I T co Q ρ ds (sepL hs) :=
  fun a w listed hr hs => let ⟨x, hp, hs'⟩ := ent_open n h hs; k x hp a w listed hr hs'
theorem TC.factSlc (n : Nat) {E sz n' cap : Nat} {ad : Option Addr} {cs : List Value} {hs rr : List HP} (h : take1 n hs = some (slc E sz ad n' cap cs, rr)) (k : cs.length = n' * sz → n' ≤ cap → cap ≤ maxLen → TC r P N c Q ρ ds (sepL hs)) : TC r P N c Q ρ ds (sepL hs) :=
  fun a w hr hs => by
    obtain ⟨hh, hx, p', q', dd, rfl, hp, hq⟩ := hs.weak (take1_ent h)
    obtain ⟨f1, f2, f3, _⟩ := slc_facts hp
    exact k f1 f2 f3 a w hr hs
end
def restr (F B : HP) : HP := fun h => F h ∧ ∃ h', hsub h' h ∧ B h'
theorem restr_ent (F B : HP) : ent (restr F B) F := ent_of_imp fun _ h => h.1
theorem restr_in (F B : HP) : ent (restr F B) B := fun _ ⟨_, h', s, b⟩ => ⟨h', s, b⟩
instance (F B : HP) (b : Nat) (o : Obj) [h : RdI B b o] : RdI (restr F B) b o := ⟨Rd_ent (restr_in F B) h.rd⟩
instance (F B : HP) (ad : Option Addr) (E : Nat) (cs : List Value) [h : RdSI B ad E cs] : RdSI (restr F B) ad E cs := ⟨RdS_ent (restr_in F B) h.rd⟩
theorem ent_one (n : Nat) {hs r : List HP} {B : HP} (h : take1 n hs = some (B, r)) : ent (sepL hs) B := (take1_ent h).trans sep_left
theorem ent_of {hs : List HP} {B : HP} (h : ent (sepL hs) (sepL [B])) : ent (sepL hs) B := h.trans sep_left
theorem ent_takeF (n : Nat) {hs r gs : List HP} {F B : HP} (h : take1 n hs = some (restr F B, r)) (k : ent (sepL r) (sepL gs)) : ent (sepL hs) (sepL (F :: gs)) :=
  (take1_ent h).trans (sep_mono (restr_ent F B) k)
section
variable {r : Option Nat} {P : Program} {N : Nat} {Q : Post} {ρ : Env} {ds : List Deferred} {c : Code}
theorem TC.openR {F : HP} {α : Type} {p : α → Prop} {B : α → List HP} {hs : List HP} (h : ent F (EX (fun x => pure' (p x) (sepL (B x))))) (k : ∀ x, p x → TC r P N c Q ρ ds (sepL (restr F (sepL (B x)) :: hs))) : TC r P N c Q ρ ds (sepL (F :: hs)) := by
  intro a w hr hs'
  obtain ⟨hh, hx, p', q', dd, rfl, hp, hq⟩ := hs'
  obtain ⟨h', s', x, hpx, hB⟩ := h p' hp
  exact k x hpx a w hr ⟨_, hx, p', q', dd, rfl, ⟨hp, h', s', hB⟩, hq⟩
end
theorem flat_length {α : Type} {enc : α → List Value} {sz : Nat} (h : ∀ a, (enc a).length = sz) : ∀ (xs : List α), (xs.flatMap enc).length = xs.length * sz
  | [] => by simp
  | a :: xs => by rw [List.flatMap_cons, List.length_append, h, flat_length h xs, List.length_cons, Nat.add_mul]; omega
theorem flat_get {α : Type} {enc : α → List Value} {sz : Nat} (h : ∀ a, (enc a).length = sz) : ∀ {xs : List α} {i j : Nat} {a : α} {v : Value}, xs[i]? = some a → (enc a)[j]? = some v → (xs.flatMap enc)[i * sz + j]? = some v
  | [], _, _, _, _, hi, _ => by simp at hi
  | b :: xs, 0, j, a, v, hi, hj => by
    simp at hi; subst hi
    rw [List.flatMap_cons, Nat.zero_mul, Nat.zero_add, List.getElem?_append_left (List.getElem?_eq_some_iff.1 hj).1]; exact hj
  | b :: xs, i + 1, j, a, v, hi, hj => by
    simp at hi
    have := flat_get h hi hj
    rw [List.flatMap_cons, List.getElem?_append_right (by rw [h, Nat.add_mul]; omega), h, Nat.add_mul]
    rw [show i * sz + 1 * sz + j - sz = i * sz + j by omega]; exact this
theorem flat_drop {α : Type} {enc : α → List Value} {sz : Nat} (h : ∀ a, (enc a).length = sz) : ∀ (xs : List α) (i : Nat), (xs.flatMap enc).drop (i * sz) = (xs.drop i).flatMap enc
  | [], i => by simp
  | b :: xs, 0 => by simp
  | b :: xs, i + 1 => by
    rw [List.flatMap_cons, List.drop_append, List.drop_eq_nil_of_le (by rw [h, Nat.add_mul]; omega), h, Nat.add_mul]
    rw [show i * sz + 1 * sz - sz = i * sz by omega, List.nil_append, List.drop_succ_cons]; exact flat_drop h xs i
theorem flat_take {α : Type} {enc : α → List Value} {sz : Nat} (h : ∀ a, (enc a).length = sz) : ∀ (xs : List α) (i : Nat), (xs.flatMap enc).take (i * sz) = (xs.take i).flatMap enc
  | [], i => by simp
  | b :: xs, 0 => by simp
  | b :: xs, i + 1 => by
    rw [List.flatMap_cons, List.take_append, List.take_of_length_le (by rw [h, Nat.add_mul]; omega), h, Nat.add_mul]
    rw [show i * sz + 1 * sz - sz = i * sz by omega, List.take_succ_cons, List.flatMap_cons, flat_take h xs i]
theorem flat_get_rec {α : Type} {enc : α → List Value} {sz : Nat} (h : ∀ a, (enc a).length = sz) {xs : List α} {i : Nat} {a : α} (hi : xs[i]? = some a) : ((xs.flatMap enc).drop (i * sz)).take sz = enc a := by
  rw [flat_drop h]
  have : xs.drop i = a :: xs.drop (i + 1) := by
    have hlt := (List.getElem?_eq_some_iff.1 hi)
    obtain ⟨hl, he⟩ := hlt
    rw [List.drop_eq_getElem_cons hl, he]
  rw [this, List.flatMap_cons, List.take_append_of_le_length (by rw [h]; omega), List.take_of_length_le (by rw [h]; omega)]
theorem findIdx_at {α : Type} {p : α → Bool} : ∀ {l : List α} {k : Nat} {t : α}, l[k]? = some t → p t = true → (∀ j u, j < k → l[j]? = some u → p u = false) → l.findIdx? p = some k
  | [], _, _, h, _, _ => by simp at h
  | a :: l, 0, t, h, hp, _ => by simp at h; subst h; simp [List.findIdx?_cons, hp]
  | a :: l, k + 1, t, h, hp, hn => by
    have h0 := hn 0 a (by omega) rfl
    have := findIdx_at (l := l) (k := k) (by simpa using h) hp (fun j u hj hu => hn (j + 1) u (by omega) (by simpa using hu))
    simp [List.findIdx?_cons, h0, this]
theorem findIdx_no {α : Type} {p : α → Bool} {l : List α} (hn : ∀ j u, j < l.length → l[j]? = some u → p u = false) : l.findIdx? p = none := by
  rw [List.findIdx?_eq_none_iff]
  intro x hx
  obtain ⟨j, hj, rfl⟩ := List.getElem_of_mem hx
  exact hn j _ hj (List.getElem?_eq_getElem hj)
theorem find_of_findIdx {α : Type} {p : α → Bool} : ∀ {l : List α} {k : Nat}, l.findIdx? p = some k → ∃ t, l[k]? = some t ∧ l.find? p = some t
  | [], _, h => by simp at h
  | a :: l, k, h => by
    rw [List.findIdx?_cons] at h
    by_cases hp : p a = true
    · simp [hp] at h; subst h; exact ⟨a, rfl, by simp [hp]⟩
    · simp [hp] at h
      obtain ⟨j, hj, rfl⟩ := h
      obtain ⟨t, h1, h2⟩ := find_of_findIdx hj
      exact ⟨t, by simpa using h1, by simp [hp, h2]⟩
def ints (xs : List Int) : List Value := xs.map (fun x => .int .i64 x)
theorem ints_length (xs : List Int) : (ints xs).length = xs.length := by simp [ints]
theorem ints_get {xs : List Int} {i : Nat} {x : Int} (h : xs[i]? = some x) : (ints xs)[i * 1]? = some (.int .i64 x) := by simp [ints, h]
theorem ints_app (xs ys : List Int) : ints (xs ++ ys) = ints xs ++ ints ys := by simp [ints]
theorem ints_one (xs : List Int) : (ints xs).all Value.oneCell' = true := by simp [ints, List.all_eq_true, Value.oneCell']
end Go.QM
