/-
  Proved here: what functions of this program compute, each as a contract over symbolic states, under the premises that each theorem names (most lines printed by a program of the prover).
-/
import Derived.Test.YtdfmfhcjnjfjbaaMtJ
import Derived.Test.YtdfmfhcjnjfjbaaRdD
import Derived.Test.YtdfmfhcjnjfjbaaAlC
namespace Go.Proofs.Ytdfmfhcjnjfjbaa
open Go Go.QM
open Al (En hasA Nd clrA setA offA dueA restA leftA ids)
open Rd (hasS NdS addS RInv topS runS tickS yieldS rndS)
/-- What was told. -/
structure Tg where
  th : Int
  er : Int
deriving DecidableEq
def tgC (t : Tg) : List Value := [.int .i64 t.th, .int .i64 t.er]
theorem tgC_sz (t : Tg) : (tgC t).length = 2 := rfl
def tgsC (L : List Tg) : List Value := L.flatMap tgC
theorem tgsC_length (L : List Tg) : (tgsC L).length = L.length * 2 := flat_length tgC_sz L
theorem tgs_app (S T : List Tg) : tgsC S ++ tgsC T = tgsC (S ++ T) := by simp [tgsC]
theorem tgs_one : ∀ (S : List Tg), (tgsC S).all Value.oneCell' = true
  | [] => rfl
  | t :: S => by have := tgs_one S; rw [tgsC] at this ⊢; rw [List.flatMap_cons, List.all_append, this]; rfl
/-- Threads: who is ready, alarms, who waits for whom, priorities, slices, who was started, what was told. -/
structure TS where
  S : List Rd.Th
  now : Int
  tn : Int
  A : List En
  m : MS
  pr : Int → Int
  sl : Int → Int
  on : Int → Bool
  told : List Tg
def t0 : TS := ⟨[], 0, 0, [], s0, fun _ => 0, fun _ => 0, fun _ => false, []⟩
def stT (T : TS) (id : Int) : Int := if id ∈ T.m.ids then (if T.on id = true then T.m.st id else 4) else -1
def tell1 (why : Int) (T : TS) (id : Int) : TS := { T with S := (addS T.S id (T.pr id) (T.sl id)).1, A := clrA T.A [id], told := T.told ++ [⟨id, why⟩] }
def tellS (T : TS) (why : Int) (l : List Int) : TS := l.foldl (tell1 why) T
def mS (T : TS) (m : MS) : TS := { T with m := m }
def blockS (T : TS) (id ticks : Int) : TS :=
  if 0 < ticks then { T with S := Rd.dropS T.S [id], tn := (setA T.A T.now T.tn id ticks).2.1, A := (setA T.A T.now T.tn id ticks).1 } else { T with S := Rd.dropS T.S [id] }
def badT (ticks : Int) : Prop := ticks < 0 ∨ 1048576 < ticks
instance (t : Int) : Decidable (badT t) := inferInstanceAs (Decidable (_ ∨ _))
def addT (T : TS) (id : Int) : TS := if id ∈ T.m.ids ∨ id < 0 then T else { T with m := joinS T.m id, pr := updI T.pr id 0, sl := updI T.sl id 0, on := updI T.on id false }
def addL (T : TS) (l : List Int) : TS := l.foldl addT T
def startS (T : TS) (id p s : Int) : TS × Int :=
  if id ∉ T.m.ids then (T, 6) else if p < 0 ∨ 7 < p ∨ s < 1 ∨ 16 < s then (T, 1) else if T.on id = true then (T, 12) else
  ({ T with S := (addS T.S id p s).1, pr := updI T.pr id p, sl := updI T.sl id s, on := updI T.on id true }, (addS T.S id p s).2)
def stopS (T : TS) (id : Int) : TS × Int :=
  if id ∉ T.m.ids then (T, 6) else if T.on id ≠ true then (T, 12) else
  ({ T with S := Rd.dropS T.S [id], A := clrA T.A [id], m := (callS T.m id).1, on := updI T.on id false }, 0)
def outS (T : TS) (id : Int) : TS := { T with S := Rd.dropS T.S [id], A := clrA T.A [id], m := (leaveS T.m id).1 }
def removeS (T : TS) (id : Int) : TS × Int :=
  if id ∉ T.m.ids then (T, 6) else (tellS (outS T id) 13 (leaveS T.m id).2.1, 0)
def sendS (T : TS) (fr to gt : Int) (cl : Bool) (ticks : Int) : TS × Int :=
  if fr ∉ T.m.ids ∨ to ∉ T.m.ids then (T, 6) else if fr = to ∨ badT ticks then (T, 1) else if stT T fr ≠ 0 then (T, 12) else
  (blockS (mS T (offS T.m to ⟨fr, gt, cl⟩).1) fr ticks, 0)
def waitS (T : TS) (id ticks : Int) : TS × Int :=
  if id ∉ T.m.ids then (T, 6) else if badT ticks then (T, 1) else if stT T id ≠ 0 then (T, 12) else
  if (openS T.m id).2 ≠ 0 then (T, (openS T.m id).2) else (blockS (mS T (openS T.m id).1) id ticks, 0)
def takeT1 (T : TS) (o : Off) (el s id : Int) : TS :=
  let T1 := if o.cl = true then T else tellS T 0 [o.fr]
  let T2 := if el = -1 then T1 else tellS T1 13 [el]
  if s = 2 then tellS T2 0 [id] else T2
def takeT (T : TS) (id : Int) : TS × Off × Int :=
  if id ∉ T.m.ids then (T, o0, 6) else if stT T id ≠ 0 ∧ stT T id ≠ 2 then (T, o0, 12) else
  if (takeS T.m id).2.2.2 ≠ 0 then (T, o0, (takeS T.m id).2.2.2) else
  (takeT1 (mS T (takeS T.m id).1) (takeS T.m id).2.1 (takeS T.m id).2.2.1 (stT T id) id, (takeS T.m id).2.1, 0)
def refuseS (T : TS) (id why : Int) : TS × Off × Int :=
  if id ∉ T.m.ids then (T, o0, 6) else match T.m.row id with
  | [] => (T, o0, 6)
  | o :: _ => (tellS (mS T (callS T.m o.fr).1) why [o.fr], o, 0)
def answerS (T : TS) (id : Int) : TS × Int × Int :=
  if id ∉ T.m.ids then (T, 0, 6) else if stT T id ≠ 0 then (T, 0, 12) else
  if (ansS T.m id).2.2 = 0 then (tellS (mS T (ansS T.m id).1) 0 [(ansS T.m id).2.1], (ansS T.m id).2.1, 0) else (T, (ansS T.m id).2.1, (ansS T.m id).2.2)
def wakeS (T : TS) (why id : Int) : TS × Int :=
  if id ∉ T.m.ids then (T, 6) else if stT T id = 0 ∨ stT T id = 4 then (T, 12) else (tellS (mS T (callS T.m id).1) why [id], 0)
def closeT (T : TS) (g : Int) : TS × Int := (tellS (mS T (closeS T.m g).1) 13 (closeS T.m g).2, (closeS T.m g).2.length)
def tickT1 (T : TS) : TS := { T with S := tickS T.S, now := T.now + 1, A := restA (T.now + 1) T.A }
def wakeL (T : TS) (l : List Int) : TS := l.foldl (fun T id => (wakeS T 14 id).1) T
def tickT (T : TS) : TS := wakeL (tickT1 T) (ids (dueA (T.now + 1) T.A))
def yieldT (T : TS) : TS := { T with S := yieldS T.S }
def toldT (T : TS) : TS := { T with told := [] }
/-- What holds of threads; those of L are Free, and not yet ready. -/
structure TP (T : TS) (L : List Int) : Prop where
  wm : WM T.m
  rj : RInv T.S
  lf : ∀ t ∈ T.S, 1 ≤ t.left ∧ t.left ≤ t.whole
  sp : ∀ t ∈ T.S, t.prio = T.pr t.id ∧ t.whole = T.sl t.id
  rdy : ∀ x, hasS T.S x ↔ (x ∈ T.m.ids ∧ T.on x = true ∧ T.m.st x = 0) ∧ x ∉ L
  na : Nd T.A
  al : ∀ x, hasA T.A x → x ∈ T.m.ids ∧ (T.m.st x ≠ 0 ∨ x ∈ L)
  off : ∀ x ∈ T.m.ids, T.m.st x ≠ 0 → T.on x = true
  ps : ∀ x ∈ T.m.ids, T.on x = true → (0 ≤ T.pr x ∧ T.pr x ≤ 7) ∧ 1 ≤ T.sl x ∧ T.sl x ≤ 16
  tm : ∀ e ∈ T.A, T.now < e.at_ ∧ e.at_ ≤ T.now + 1048576
  L1 : ∀ x ∈ L, x ∈ T.m.ids ∧ T.on x = true ∧ T.m.st x = 0
  Ln : L.Nodup
theorem has_app {S : List Rd.Th} {t : Rd.Th} {x : Int} : hasS (S ++ [t]) x ↔ hasS S x ∨ t.id = x := by simp [hasS, or_and_right, exists_or]
theorem clr_has {A : List En} {l : List Int} {x : Int} : hasA (clrA A l) x ↔ hasA A x ∧ x ∉ l := by
  rw [Al.clrA_eq]
  constructor
  · rintro ⟨e, he, rfl⟩
    obtain ⟨h1, h2⟩ := List.mem_filter.1 he
    exact ⟨⟨e, h1, rfl⟩, by simpa using h2⟩
  · rintro ⟨⟨e, he, rfl⟩, h⟩
    exact ⟨e, List.mem_filter.2 ⟨he, by simpa using h⟩, rfl⟩
theorem clr_mem {A : List En} {l : List Int} {e : En} (h : e ∈ clrA A l) : e ∈ A := by rw [Al.clrA_eq] at h; exact (List.mem_filter.1 h).1
theorem clr_Nd {A : List En} (h : Nd A) (l : List Int) : Nd (clrA A l) := h.sublist ((Al.clrA_sub A l).map _)
theorem drop_has {S : List Rd.Th} {l : List Int} {x : Int} : hasS (Rd.dropS S l) x ↔ hasS S x ∧ x ∉ l := by
  rw [Rd.dropS_eq]
  constructor
  · rintro ⟨e, he, rfl⟩
    obtain ⟨h1, h2⟩ := List.mem_filter.1 he
    exact ⟨⟨e, h1, rfl⟩, by simpa using h2⟩
  · rintro ⟨⟨e, he, rfl⟩, h⟩
    exact ⟨e, List.mem_filter.2 ⟨he, by simpa using h⟩, rfl⟩
theorem add_yes {S : List Rd.Th} {id p s : Int} (h0 : 0 ≤ id) (hp : 0 ≤ p ∧ p ≤ 7) (hs : 1 ≤ s ∧ s ≤ 16) (hn : ¬ hasS S id) : addS S id p s = (S ++ [⟨id, p, s, s⟩], 0) := by
  rw [addS, if_neg (by omega), if_neg hn]
theorem TP.add1 {T : TS} {x : Int} {L : List Int} (h : TP T (x :: L)) : addS T.S x (T.pr x) (T.sl x) = (T.S ++ [⟨x, T.pr x, T.sl x, T.sl x⟩], 0) := by
  obtain ⟨h1, h2, h3⟩ := h.L1 x (by simp)
  have h4 := h.ps x h1 h2
  exact add_yes (h.wm.ge x h1) h4.1 h4.2 (fun h5 => ((h.rdy x).1 h5).2 (by simp))
theorem TP.tell {T : TS} {x : Int} {L : List Int} (h : TP T (x :: L)) (why : Int) : TP (tell1 why T x) L := by
  obtain ⟨h1, h2, h3⟩ := h.L1 x (by simp)
  have h4 := h.ps x h1 h2
  have h0 := h.wm.ge x h1
  have hx : ¬ hasS T.S x := fun h5 => ((h.rdy x).1 h5).2 (by simp)
  have hL := List.nodup_cons.1 h.Ln
  have e : tell1 why T x = { T with S := T.S ++ [⟨x, T.pr x, T.sl x, T.sl x⟩], A := clrA T.A [x], told := T.told ++ [⟨x, why⟩] } := by rw [tell1, h.add1]
  rw [e]
  refine ⟨h.wm, h.rj.add (t := ⟨x, T.pr x, T.sl x, T.sl x⟩) hx (by dsimp only; omega), fun t ht => ?_, fun t ht => ?_, fun y => ?_, clr_Nd h.na _, fun y hy => ?_, h.off, h.ps, fun e he => h.tm e (clr_mem he), fun y hy => h.L1 y (by simp [hy]), hL.2⟩
  · rcases List.mem_append.1 ht with ht | ht
    · exact h.lf t ht
    · rw [List.mem_singleton.1 ht]; dsimp only; omega
  · rcases List.mem_append.1 ht with ht | ht
    · exact h.sp t ht
    · rw [List.mem_singleton.1 ht]; exact ⟨rfl, rfl⟩
  · dsimp only
    rw [has_app, h.rdy]
    simp only [List.mem_cons, not_or]
    constructor
    · rintro (⟨h5, h6, h7⟩ | rfl)
      · exact ⟨h5, h7⟩
      · exact ⟨⟨h1, h2, h3⟩, hL.1⟩
    · rintro ⟨h5, h6⟩
      by_cases e2 : y = x
      · exact .inr e2.symm
      · exact .inl ⟨h5, e2, h6⟩
  · obtain ⟨h5, h6⟩ := clr_has.1 hy
    obtain ⟨h7, h8⟩ := h.al y h5
    refine ⟨h7, h8.imp id fun h9 => ?_⟩
    rcases List.mem_cons.1 h9 with h9 | h9
    · exact absurd (by simp [h9]) h6
    · exact h9
theorem TP.tells : ∀ {L M : List Int} {T : TS} (why : Int), TP T (L ++ M) → TP (tellS T why L) M
  | [], _, _, _, h => h
  | x :: L, M, T, why, h => TP.tells (L := L) (M := M) why (TP.tell (L := L ++ M) h why)
theorem tell_m (why : Int) : ∀ (l : List Int) (T : TS), (tellS T why l).m = T.m ∧ (tellS T why l).now = T.now ∧ (tellS T why l).tn = T.tn ∧ (tellS T why l).pr = T.pr ∧ (tellS T why l).sl = T.sl ∧ (tellS T why l).on = T.on ∧ (tellS T why l).told.length = T.told.length + l.length
  | [], _ => ⟨rfl, rfl, rfl, rfl, rfl, rfl, rfl⟩
  | x :: l, T => by
    obtain ⟨h1, h2, h3, h4, h5, h6, h7⟩ := tell_m why l (tell1 why T x)
    refine ⟨h1, h2, h3, h4, h5, h6, ?_⟩
    rw [show tellS T why (x :: l) = tellS (tell1 why T x) why l from rfl, h7]
    simp [tell1]; omega
/-- The place turned; who became Free is M. -/
theorem TP.meet {T : TS} (h : TP T []) {m : MS} (hW : WM m) (hi : m.ids = T.m.ids) (M : List Int) (hM : ∀ x ∈ M, x ∈ T.m.ids ∧ T.m.st x ≠ 0 ∧ m.st x = 0) (hn : ∀ x ∈ T.m.ids, x ∉ M → (m.st x = 0 ↔ T.m.st x = 0)) (hd : M.Nodup) : TP (mS T m) M := by
  refine ⟨hW, h.rj, h.lf, h.sp, fun x => ?_, h.na, fun x hx => ?_, fun x hx hs => ?_, fun x hx => h.ps x (hi ▸ hx), h.tm, fun x hx => ?_, hd⟩
  · show hasS T.S x ↔ (x ∈ m.ids ∧ T.on x = true ∧ m.st x = 0) ∧ x ∉ M
    rw [h.rdy, hi]
    constructor
    · rintro ⟨⟨h1, h2, h3⟩, _⟩
      have h4 : x ∉ M := fun h4 => (hM x h4).2.1 h3
      exact ⟨⟨h1, h2, (hn x h1 h4).2 h3⟩, h4⟩
    · rintro ⟨⟨h1, h2, h3⟩, h4⟩
      exact ⟨⟨h1, h2, (hn x h1 h4).1 h3⟩, List.not_mem_nil⟩
  · obtain ⟨h1, h2⟩ := h.al x hx
    refine ⟨hi ▸ h1, ?_⟩
    by_cases h4 : x ∈ M
    · exact .inr h4
    · exact .inl fun h5 => (h2.resolve_right List.not_mem_nil) ((hn x h1 h4).1 h5)
  · have hx : x ∈ T.m.ids := hi ▸ hx
    have hs : m.st x ≠ 0 := hs
    have h4 : x ∉ M := fun h4 => hs (hM x h4).2.2
    exact h.off x hx fun h5 => hs ((hn x hx h4).2 h5)
  · obtain ⟨h1, h2, h3⟩ := hM x hx
    exact ⟨hi ▸ h1, h.off x h1 h2, h3⟩
end Go.Proofs.Ytdfmfhcjnjfjbaa
