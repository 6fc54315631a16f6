/-
  Proved here: what functions of this program compute, each as a contract over symbolic states, under the premises that each theorem names (most lines printed by a program of the prover).
-/
import Derived.Test.YtdfmfhcjnjfjbaaProg
import Derived.Test.YtdfmfhcjnjfjbaaQLibK
namespace Go.Proofs.Ytdfmfhcjnjfjbaa
open Go Go.QM
theorem ints_all1 {xs : List Int} {n : Nat} (h : xs.length = n) : (ints xs).take (n * 1) = ints xs := List.take_of_length_le (by rw [ints_length]; omega)
theorem ints_one1 : ∀ (xs : List Int), (ints xs).all Value.oneCell' = true
  | [] => rfl
  | x :: xs => by have := ints_one1 xs; rw [ints] at this ⊢; rw [List.map_cons, List.all_cons, this]; rfl
theorem ints_app1 (xs ys : List Int) : ints xs ++ ints ys = ints (xs ++ ys) := by simp [ints]
theorem Rd_end {b : Nat} {o : Obj} {F : HP} (h : Rd F b o) : ∀ Bs : List HP, Rd (sepL (Bs ++ [F])) b o
  | [] => Rd_here h
  | _ :: Bs => Rd_next (Rd_end h Bs)
/-- An offer. -/
structure Off where
  fr : Int
  gt : Int
  cl : Bool
deriving DecidableEq
def o0 : Off := ⟨0, 0, false⟩
def ofC (o : Off) : List Value := [.int .i64 o.fr, .int .i64 o.gt, .bool o.cl]
theorem ofC_sz (o : Off) : (ofC o).length = 3 := rfl
def ofsC (S : List Off) : List Value := S.flatMap ofC
theorem ofsC_length (S : List Off) : (ofsC S).length = S.length * 3 := flat_length ofC_sz S
theorem ofs_app (S T : List Off) : ofsC S ++ ofsC T = ofsC (S ++ T) := by simp [ofsC]
theorem ofs_take (S : List Off) (k : Nat) : (ofsC S).take (k * 3) = ofsC (S.take k) := flat_take ofC_sz S k
theorem ofs_all (S : List Off) : (ofsC S).take (S.length * 3) = ofsC S := List.take_of_length_le (by rw [ofsC_length]; omega)
theorem ofs_one : ∀ (S : List Off), (ofsC S).all Value.oneCell' = true
  | [] => rfl
  | t :: S => by have := ofs_one S; rw [ofsC] at this ⊢; rw [List.flatMap_cons, List.all_append, this]; rfl
/-- A place: who is there, states, callers, partners, rows. -/
structure MS where
  ids : List Int
  st : Int → Int
  cl : Int → Int
  pn : Int → Int
  row : Int → List Off
def frS (s : MS) (x : Int) : MS := { s with st := updI s.st x 0, pn := updI s.pn x (-1) }
def wtS (s : MS) (x v p : Int) : MS := { s with st := updI s.st x v, pn := updI s.pn x p }
def pushS (s : MS) (x : Int) (o : Off) : MS := { s with row := updI s.row x (s.row x ++ [o]) }
def rowS (s : MS) (x : Int) (R : List Off) : MS := { s with row := updI s.row x R }
def clS (s : MS) (x c : Int) : MS := { s with cl := updI s.cl x c }
def stS (s : MS) (x v : Int) : MS := { s with st := updI s.st x v }
def notO (pr : Off → Bool) : Off → Bool := fun o => !pr o
def cutMS (s : MS) (x : Int) (pr : Off → Bool) : MS := rowS s x ((s.row x).filter (notO pr))
def goneO (R : List Off) (pr : Off → Bool) : List Int := (R.filter pr).map (·.fr)
def hdO (R : List Off) : Off := R.head?.getD o0
def hdB (R : List Off) : Bool := !R.isEmpty
theorem row_cases (R : List Off) : R = [] ∨ ∃ o r, R = o :: r := by cases R with
  | nil => exact .inl rfl
  | cons o r => exact .inr ⟨o, r, rfl⟩
abbrev tP (A : Int → Nat) (ad : Int → Option Addr) (cap : Int → Nat) (s : MS) (x : Int) : HP := pts (A x) 103 [.slice (ad x) (s.row x).length (cap x), .int .i64 (s.st x), .int .i64 (s.cl x), .int .i64 (s.pn x)]
abbrev rP (ad : Int → Option Addr) (cap : Int → Nat) (s : MS) (x : Int) : HP := slc 32 3 (ad x) (s.row x).length (cap x) (ofsC (s.row x))
def fM (A : Int → Nat) (ids : List Int) : Int → Option Value := fun x => if x ∈ ids then some (.pointer (some ⟨A x, 0, none⟩)) else none
structure MRep where
  ad : Int → Option Addr
  cap : Int → Nat
  mb : Nat
def isMa (b : Nat) (A : Int → Nat) (s : MS) : HP := EX fun y : MRep => pure' s.ids.Nodup (sepL [pts b 96 [.map (some y.mb)], mapF encI y.mb (fM A s.ids) s.ids.length, bigS (tP A y.ad y.cap s) s.ids, bigS (rP y.ad y.cap s) s.ids])
theorem nd_ne {L M : List Int} {x : Int} (hn : L.Nodup) (hM : L.Perm (x :: M)) : ∀ y ∈ M, y ≠ x := fun y hy e => (List.nodup_cons.1 (hM.nodup_iff.1 hn)).1 (e ▸ hy)
theorem fM_yes {A : Int → Nat} {L : List Int} {x : Int} (h : x ∈ L) : fM A L x = some (.pointer (some ⟨A x, 0, none⟩)) := if_pos h
theorem fM_no {A : Int → Nat} {L : List Int} {x : Int} (h : x ∉ L) : fM A L x = none := if_neg h
theorem fil_snoc {pr : Off → Bool} {S : List Off} {k : Nat} {o : Off} (ho : S[k]? = some o) : (S.take (k + 1)).filter pr = (S.take k).filter pr ++ if pr o = true then [o] else [] := by
  rw [List.take_add_one, ho, Option.toList, List.filter_append]
  split
  · rename_i h; rw [List.filter_cons_of_pos h]; rfl
  · rename_i h; rw [List.filter_cons_of_neg h]; rfl
theorem gone_snoc {pr : Off → Bool} {S : List Off} {k : Nat} {o : Off} (ho : S[k]? = some o) : goneO (S.take (k + 1)) pr = goneO (S.take k) pr ++ if pr o = true then [o.fr] else [] := by
  rw [goneO, fil_snoc ho, List.map_append, goneO]; split <;> rfl
theorem gone_len (S : List Off) (pr : Off → Bool) : (goneO S pr).length ≤ S.length := by rw [goneO, List.length_map]; exact List.length_filter_le _ _

set_option maxRecDepth 4000 in
theorem mfree_ok (A : Int → Nat) (ad : Int → Option Addr) (cap : Int → Nat) (s : MS) (L : List Int) (x : Int) (hx : x ∈ L) (hn : L.Nodup) : FSpec Try.prog 69 [.pointer (some ⟨(A x), 0, none⟩)] noRd [bigS (tP A ad cap s) L] (fun _ : Unit => .tuple #[]) (fun _ => True) (fun _ => [bigS (tP A ad cap (frS s x)) L]) := by
  refine FSpec.intro (rs := []) (by kernel_rfl) Try.func69 rfl Try.ntmps69 (by rfl) rfl ?_
  intro F _
  change TC _ _ _ _ _ _ _ (sepL [_, _])
  obtain ⟨M, hM⟩ := perm_mem hx
  have hne := nd_ne hn hM
  refine TC.weak (ent_openB 0 rfl hM) ?_
  refine TC.region ?_
  refine q rfl rfl (mv (v := .pointer _) rfl) ?_
  refine q rfl rfl (mv (v := .pointer _) rfl) ?_
  first | refine q rfl rfl (nc rfl) ?_ | refine q rfl rfl (ncF rfl) ?_ | refine q rfl rfl (ncS rfl (by first | assumption | (simp [ints_length] <;> omega))) ?_
  first | refine q rfl rfl (fa 1 rfl rfl) ?_ | refine q rfl rfl (faS 1 rfl rfl (by first | assumption | (simp [ints_length] <;> omega))) ?_
  refine e0 ?_
  refine st (v := .int _ _) (vs := [_]) 1 rfl rfl rfl rfl rfl rfl (Nat.le_of_ble_eq_true rfl) rfl ?_
  first | refine q rfl rfl (nc rfl) ?_ | refine q rfl rfl (ncF rfl) ?_ | refine q rfl rfl (ncS rfl (by first | assumption | (simp [ints_length] <;> omega))) ?_
  first | refine q rfl rfl (fa 3 rfl rfl) ?_ | refine q rfl rfl (faS 3 rfl rfl (by first | assumption | (simp [ints_length] <;> omega))) ?_
  refine e0 ?_
  refine st (v := .int _ _) (vs := [_]) 1 rfl rfl rfl rfl rfl rfl (Nat.le_of_ble_eq_true rfl) rfl ?_
  refine TL.nil ?_
  exact Ret.n () [] trivial rfl trivial (ent_closeB 0 0 x rfl rfl (by dsimp only [tP, frS, wtS, pushS, rowS, cutMS, clS, stS]; simp only [updI_same]; rfl) (fun y hy => by have h := hne y hy; dsimp only [tP, frS, wtS, pushS, rowS, cutMS, clS, stS]; simp only [updI_ne h]) hM.symm (ent_take 0 rfl (ent_nil _)))

set_option maxRecDepth 4000 in
theorem mwaits_ok (A : Int → Nat) (ad : Int → Option Addr) (cap : Int → Nat) (s : MS) (L : List Int) (x : Int) (hx : x ∈ L) (hn : L.Nodup) (v w : Int) : FSpec Try.prog 66 [.pointer (some ⟨(A x), 0, none⟩), .int .i64 v, .int .i64 w] noRd [bigS (tP A ad cap s) L] (fun _ : Unit => .tuple #[]) (fun _ => True) (fun _ => [bigS (tP A ad cap (wtS s x v w)) L]) := by
  refine FSpec.intro (rs := []) (by kernel_rfl) Try.func66 rfl Try.ntmps66 (by rfl) rfl ?_
  intro F _
  change TC _ _ _ _ _ _ _ (sepL [_, _])
  obtain ⟨M, hM⟩ := perm_mem hx
  have hne := nd_ne hn hM
  refine TC.weak (ent_openB 0 rfl hM) ?_
  refine TC.region ?_
  refine q rfl rfl (mv (v := .pointer _) rfl) ?_
  refine q rfl rfl (mv (v := .pointer _) rfl) ?_
  refine q rfl rfl (mv (v := .int _ _) rfl) ?_
  refine q rfl rfl (mv (v := .int _ _) rfl) ?_
  first | refine q rfl rfl (nc rfl) ?_ | refine q rfl rfl (ncF rfl) ?_ | refine q rfl rfl (ncS rfl (by first | assumption | (simp [ints_length] <;> omega))) ?_
  first | refine q rfl rfl (fa 1 rfl rfl) ?_ | refine q rfl rfl (faS 1 rfl rfl (by first | assumption | (simp [ints_length] <;> omega))) ?_
  refine e0 ?_
  refine st (v := .int _ _) (vs := [_]) 1 rfl rfl rfl rfl rfl rfl (Nat.le_of_ble_eq_true rfl) rfl ?_
  first | refine q rfl rfl (nc rfl) ?_ | refine q rfl rfl (ncF rfl) ?_ | refine q rfl rfl (ncS rfl (by first | assumption | (simp [ints_length] <;> omega))) ?_
  first | refine q rfl rfl (fa 3 rfl rfl) ?_ | refine q rfl rfl (faS 3 rfl rfl (by first | assumption | (simp [ints_length] <;> omega))) ?_
  refine e0 ?_
  refine st (v := .int _ _) (vs := [_]) 1 rfl rfl rfl rfl rfl rfl (Nat.le_of_ble_eq_true rfl) rfl ?_
  refine TL.nil ?_
  exact Ret.n () [] trivial rfl trivial (ent_closeB 0 0 x rfl rfl (by dsimp only [tP, frS, wtS, pushS, rowS, cutMS, clS, stS]; simp only [updI_same]; rfl) (fun y hy => by have h := hne y hy; dsimp only [tP, frS, wtS, pushS, rowS, cutMS, clS, stS]; simp only [updI_ne h]) hM.symm (ent_take 0 rfl (ent_nil _)))

set_option maxRecDepth 4000 in
theorem mpush_ok (A : Int → Nat) (ad : Int → Option Addr) (cap : Int → Nat) (s : MS) (L : List Int) (x : Int) (hx : x ∈ L) (hn : L.Nodup) (o : Off) (hl : (s.row x).length ≤ 1000000) : FSpec Try.prog 67 [.pointer (some ⟨(A x), 0, none⟩), .agg (ofC o).toArray] noRd [bigS (tP A ad cap s) L, bigS (rP ad cap s) L] (fun _ : Option Addr × Nat => .tuple #[]) (fun _ => True) (fun y => [bigS (tP A (updI ad x y.1) (updI cap x y.2) (pushS s x o)) L, bigS (rP (updI ad x y.1) (updI cap x y.2) (pushS s x o)) L]) := by
  refine FSpec.intro (rs := []) (by kernel_rfl) Try.func67 rfl Try.ntmps67 (by rfl) rfl ?_
  intro F _
  change TC _ _ _ _ _ _ _ (sepL [_, _, _])
  obtain ⟨M, hM⟩ := perm_mem hx
  have hne := nd_ne hn hM
  refine TC.weak (ent_openB 0 rfl hM) ?_
  refine TC.weak (ent_openB 2 rfl hM) ?_
  have hol := ofsC_length (s.row x)
  refine TC.seq ?_
  refine TC.region ?_
  refine e rfl ?_
  refine bx (v := .agg #[_, _, _]) (l := [.int _ _, .int _ _, .bool _]) rfl rfl ?_
  intro b1
  refine TL.nil (nt ?_)
  refine TC.draw _ [10] [(0, false), (1, false), (2, false), (3, false), (4, false), (5, false), (6, true), (7, true), (8, false), (9, false), (10, true)] (by kernel_rfl) (by kernel_rfl) (ent_take 0 rfl (ent_take 2 rfl (ent_nil _))) ?_
  refine dq rfl rfl rfl (mv (v := .pointer _) rfl) ?_
  refine dq rfl rfl rfl (mv (v := .pointer _) rfl) ?_
  first | refine dq rfl rfl rfl (nc rfl) ?_ | refine dq rfl rfl rfl (ncF rfl) ?_ | refine dq rfl rfl rfl (ncS rfl (by first | assumption | (simp [ints_length] <;> omega))) ?_
  first | refine dq rfl rfl rfl (fa 0 rfl rfl) ?_ | refine dq rfl rfl rfl (faS 0 rfl rfl (by first | assumption | (simp [ints_length] <;> omega))) ?_
  first | refine dq rfl rfl rfl (ld rfl rfl rfl) ?_ | refine dq rfl rfl rfl (ldS rfl rfl rfl) ?_
  first | refine dq rfl rfl rfl (ldN (vs := [_, _, _]) 3 rfl rfl rfl rfl) ?_ | refine dq rfl rfl rfl (ldSN (vs := [_, _, _]) 3 rfl rfl rfl rfl (by decide)) ?_
  refine de rfl rfl ?_
  refine bs (cs := [.int _ _, .int _ _, .bool _]) rfl ?_
  intro b2
  refine ⟨(by repeat (first | exact ent_nil _ | refine ent_take 0 rfl ?_ | refine ent_take 1 rfl ?_ | refine ent_take 2 rfl ?_ | refine ent_take 3 rfl ?_ | refine ent_take 4 rfl ?_ | refine ent_take 5 rfl ?_ | refine ent_take 6 rfl ?_ | refine ent_take 7 rfl ?_ | refine ent_take 8 rfl ?_ | refine ent_take 9 rfl ?_ | refine ent_take 10 rfl ?_ | refine ent_take 11 rfl ?_ | refine ent_take 12 rfl ?_)), ?_⟩
  refine de rfl rfl ?_
  refine ap 24 rfl rfl rfl rfl rfl (Nat.le_of_ble_eq_true rfl) (show _ = ofsC [o] from rfl) rfl (by omega) (by simp only [maxLen]; omega) ?_
  intro ad1 cap1
  refine ⟨(by repeat (first | exact ent_nil _ | refine ent_take 0 rfl ?_ | refine ent_take 1 rfl ?_ | refine ent_take 2 rfl ?_ | refine ent_take 3 rfl ?_ | refine ent_take 4 rfl ?_ | refine ent_take 5 rfl ?_ | refine ent_take 6 rfl ?_ | refine ent_take 7 rfl ?_ | refine ent_take 8 rfl ?_ | refine ent_take 9 rfl ?_ | refine ent_take 10 rfl ?_ | refine ent_take 11 rfl ?_ | refine ent_take 12 rfl ?_)), ?_⟩
  first | refine dq rfl rfl rfl (nc rfl) ?_ | refine dq rfl rfl rfl (ncF rfl) ?_ | refine dq rfl rfl rfl (ncS rfl (by first | assumption | (simp [ints_length] <;> omega))) ?_
  first | refine dq rfl rfl rfl (fa 0 rfl rfl) ?_ | refine dq rfl rfl rfl (faS 0 rfl rfl (by first | assumption | (simp [ints_length] <;> omega))) ?_
  refine dl0 rfl rfl rfl ?_
  refine st (v := .slice _ _ _) (vs := [_]) 1 rfl rfl rfl rfl rfl rfl (Nat.le_of_ble_eq_true rfl) rfl ?_
  refine TD.nil ?_
  exact Ret.n ⟨ad1, cap1⟩ [] trivial rfl trivial (ent_closeB 0 4 x rfl rfl (by dsimp only [tP, frS, wtS, pushS, rowS, cutMS, clS, stS]; simp only [updI_same, List.length_append, List.length_singleton]; rfl) (fun y hy => by have h := hne y hy; dsimp only [tP, frS, wtS, pushS, rowS, cutMS, clS, stS]; simp only [updI_ne h]) hM.symm (ent_closeB 0 2 x rfl rfl (by dsimp only [rP, frS, wtS, pushS, rowS, cutMS, clS, stS]; simp only [updI_same, List.length_append, List.length_singleton, ofs_app]) (fun y hy => by have h := hne y hy; dsimp only [rP, frS, wtS, pushS, rowS, cutMS, clS, stS]; simp only [updI_ne h]) hM.symm (ent_take 2 rfl (ent_nil _))))

set_option maxRecDepth 4000 in
theorem mfirst_ok (A : Int → Nat) (ad : Int → Option Addr) (cap : Int → Nat) (s : MS) (L : List Int) (x : Int) (hx : x ∈ L) (hn : L.Nodup) : FSpec Try.prog 68 [.pointer (some ⟨(A x), 0, none⟩)] noRd [bigS (tP A ad cap s) L, bigS (rP ad cap s) L] (fun _ : Unit => .tuple #[.agg (ofC (hdO (s.row x))).toArray, .bool (hdB (s.row x))]) (fun _ => True) (fun _ => [bigS (tP A ad cap s) L, bigS (rP ad cap s) L]) := by
  refine FSpec.intro (rs := [.cell 2 32, .tmp 3]) (by kernel_rfl) Try.func68 rfl Try.ntmps68 (by rfl) rfl ?_
  intro F _
  change TC _ _ _ _ _ _ _ (sepL [_, _, _])
  obtain ⟨M, hM⟩ := perm_mem hx
  have hne := nd_ne hn hM
  refine TC.weak (ent_openB 0 rfl hM) ?_
  refine TC.weak (ent_openB 2 rfl hM) ?_
  have hol := ofsC_length (s.row x)
  refine TC.seq ?_
  refine TC.region ?_
  refine e rfl ?_
  refine al (l := [.int _ _, .int _ _, .bool _]) rfl rfl ?_
  intro b3
  refine q rfl rfl (asg (v := .bool _) rfl) ?_
  refine TL.nil (nt ?_)
  refine TC.seq ?_
  refine TC.seq ?_
  refine TC.region ?_
  refine q rfl rfl (mv (v := .pointer _) rfl) ?_
  first | refine q rfl rfl (nc rfl) ?_ | refine q rfl rfl (ncF rfl) ?_ | refine q rfl rfl (ncS rfl (by first | assumption | (simp [ints_length] <;> omega))) ?_
  first | refine q rfl rfl (fa 0 rfl rfl) ?_ | refine q rfl rfl (faS 0 rfl rfl (by first | assumption | (simp [ints_length] <;> omega))) ?_
  first | refine q rfl rfl (ld rfl rfl rfl) ?_ | refine q rfl rfl (ldS rfl rfl rfl) ?_
  refine q rfl rfl (len 32 3 rfl rfl) ?_
  refine q rfl rfl (eqI rfl rfl) ?_
  refine TL.nil (nt ?_)
  rcases row_cases (s.row x) with hr | ⟨o, r, hr⟩
  · refine TC.condD rfl (fun hc1 => ?_) (fun hc1 => absurd (by rw [hr]; rfl) hc1)
    refine TC.seq ?_
    refine TC.region ?_
    first | refine q rfl rfl (bld (cs := [.int _ _, .int _ _, .bool _]) rfl) ?_ | refine q rfl rfl (bld (cs := [_, _, _]) rfl) ?_
    refine e0 ?_
    refine st (v := .agg #[_, _, _]) (vs := [_, _, _]) 3 rfl rfl rfl rfl rfl rfl (Nat.le_of_ble_eq_true rfl) rfl ?_
    refine q rfl rfl (asg (v := .bool _) rfl) ?_
    refine TL.nil (nt ?_)
    refine TC.ret (rt ?_)
    exact Ret.i () [_, _] ⟨(rcN (n := 3) rfl rfl rfl rfl), rfl, trivial⟩ (by rw [hr]; rfl) trivial (ent_closeB 3 3 x rfl rfl rfl (fun _ _ => rfl) hM.symm (ent_closeB 1 1 x rfl rfl rfl (fun _ _ => rfl) hM.symm (ent_take 1 rfl (ent_nil _))))
  · have hlc : (s.row x).length = r.length + 1 := by rw [hr, List.length_cons]
    have hpos : 0 < (ofsC (s.row x)).length := by omega
    refine TC.condD rfl (fun hc2 => absurd hc2 (by omega)) (fun hc2 => ?_)
    refine TC.skip (nt ?_)
    refine TC.seq ?_
    refine TC.region ?_
    refine q rfl rfl (mv (v := .pointer _) rfl) ?_
    first | refine q rfl rfl (nc rfl) ?_ | refine q rfl rfl (ncF rfl) ?_ | refine q rfl rfl (ncS rfl (by first | assumption | (simp [ints_length] <;> omega))) ?_
    first | refine q rfl rfl (fa 0 rfl rfl) ?_ | refine q rfl rfl (faS 0 rfl rfl (by first | assumption | (simp [ints_length] <;> omega))) ?_
    first | refine q rfl rfl (ld rfl rfl rfl) ?_ | refine q rfl rfl (ldS rfl rfl (show _ = ofC o from by rw [hr]; rfl)) ?_ | refine q rfl rfl (ldS rfl rfl rfl) ?_
    first | refine q rfl rfl (ixS 32 3 rfl rfl rfl (by omega) (by first | assumption | (simp [ints_length] <;> omega))) ?_ | refine q rfl rfl (ixJ 32 3 rfl rfl rfl (by omega) (by omega) (by first | assumption | (simp [ints_length] <;> omega))) ?_ | refine q rfl rfl (ix 32 3 rfl rfl rfl (by omega) (by omega) rfl) ?_
    first | refine q rfl rfl (ldN (vs := [_, _, _]) 3 rfl rfl rfl rfl) ?_ | refine q rfl rfl (ldSN (vs := [_, _, _]) 3 rfl rfl (show _ = ofC o from by rw [hr]; rfl) rfl (by decide)) ?_ | refine q rfl rfl (ldSN (vs := [_, _, _]) 3 rfl rfl rfl rfl (by decide)) ?_
    refine e0 ?_
    refine st (v := .agg #[_, _, _]) (vs := [_, _, _]) 3 rfl rfl rfl rfl rfl rfl (Nat.le_of_ble_eq_true rfl) rfl ?_
    refine q rfl rfl (asg (v := .bool _) rfl) ?_
    refine TL.nil (nt ?_)
    refine TC.ret ?_
    exact Ret.i () [_, _] ⟨(rcN (n := 3) rfl rfl rfl rfl), rfl, trivial⟩ (by rw [hr]; rfl) trivial (ent_closeB 3 3 x rfl rfl rfl (fun _ _ => rfl) hM.symm (ent_closeB 1 1 x rfl rfl rfl (fun _ _ => rfl) hM.symm (ent_take 1 rfl (ent_nil _))))

set_option maxRecDepth 4000 in
set_option maxHeartbeats 1000000 in
theorem mcut_ok (A : Int → Nat) (ad : Int → Option Addr) (cap : Int → Nat) (s : MS) (L : List Int) (x : Int) (hx : x ∈ L) (hn : L.Nodup) (fc : FuncId) (lb : List Value) (pr : Off → Bool) (rdc : HP → Prop) (hclo : ∀ o, FSpec Try.prog fc ([.agg (ofC o).toArray] ++ lb) rdc [] (fun _ : Unit => .bool (pr o)) (fun _ => True) (fun _ => [])) (hm : ∀ (Bs : List HP) F, rdc F → rdc (sepL (Bs ++ [F]))) (hl : (s.row x).length ≤ 1000000) : FSpec Try.prog 70 [.pointer (some ⟨(A x), 0, none⟩), .func (.func fc) #[] lb.toArray] rdc [bigS (tP A ad cap s) L, bigS (rP ad cap s) L] (fun y : (Option Addr × Nat) × (Option Addr × Nat) => .slice y.1.1 (goneO (s.row x) pr).length y.1.2) (fun _ => True) (fun y => [slc 3 1 y.1.1 (goneO (s.row x) pr).length y.1.2 (ints (goneO (s.row x) pr)), bigS (tP A (updI ad x y.2.1) (updI cap x y.2.2) (cutMS s x pr)) L, bigS (rP (updI ad x y.2.1) (updI cap x y.2.2) (cutMS s x pr)) L]) := by
  refine FSpec.intro (rs := [.tmp 4]) (by kernel_rfl) Try.func70 rfl Try.ntmps70 (by rfl) rfl ?_
  intro F hFc
  change TC _ _ _ _ _ _ _ (sepL [_, _, _])
  obtain ⟨M, hM⟩ := perm_mem hx
  have hne := nd_ne hn hM
  refine TC.weak (ent_openB 0 rfl hM) ?_
  refine TC.weak (ent_openB 2 rfl hM) ?_
  have hol := ofsC_length (s.row x)
  refine TC.seq ?_
  refine TC.region ?_
  refine q rfl rfl (asg (v := .slice _ _ _) rfl) ?_
  refine TL.nil (nt ?_)
  refine TC.seq ?_
  refine TC.region ?_
  refine q rfl rfl (asg (v := .slice _ _ _) rfl) ?_
  refine TL.nil (nt ?_)
  refine TC.seq ?_
  refine TC.region ?_
  refine q rfl rfl (asg (v := .slice _ _ _) rfl) ?_
  refine TL.nil (nt ?_)
  refine TC.seq ?_
  refine TC.seq ?_
  refine TC.region ?_
  refine q rfl rfl (mv (v := .pointer _) rfl) ?_
  first | refine q rfl rfl (nc rfl) ?_ | refine q rfl rfl (ncF rfl) ?_ | refine q rfl rfl (ncS rfl (by first | assumption | (simp [ints_length] <;> omega))) ?_
  first | refine q rfl rfl (fa 0 rfl rfl) ?_ | refine q rfl rfl (faS 0 rfl rfl (by first | assumption | (simp [ints_length] <;> omega))) ?_
  first | refine q rfl rfl (ld rfl rfl rfl) ?_ | refine q rfl rfl (ldS rfl rfl rfl) ?_
  refine q rfl rfl (len 32 3 rfl rfl) ?_
  refine q rfl rfl (mv (v := .int _ _) rfl) ?_
  refine TL.nil (nt ?_)
  refine TC.block ?_
  refine TC.loop (ι := Nat × (Option Addr × Nat) × (Option Addr × Nat)) (fun u => u.1 ≤ (s.row x).length) (fun u => [(0, .pointer (some ⟨(A x), 0, none⟩)), (1, .func (.func fc) #[] lb.toArray), (5, .slice u.2.1.1 (goneO ((s.row x).take u.1) pr).length u.2.1.2), (6, .slice u.2.2.1 (((s.row x).take u.1).filter (notO pr)).length u.2.2.2), (12, .slice (ad x) (s.row x).length (cap x)), (13, .int .i64 (s.row x).length), (14, .int .i64 ((u.1 : Nat) : Int))]) (fun u => sepL [slc 3 1 u.2.1.1 (goneO ((s.row x).take u.1) pr).length u.2.1.2 (ints (goneO ((s.row x).take u.1) pr)), slc 32 3 u.2.2.1 (((s.row x).take u.1).filter (notO pr)).length u.2.2.2 (ofsC (((s.row x).take u.1).filter (notO pr))), rP ad cap s x, bigS (rP ad cap s) M, tP A ad cap s x, bigS (tP A ad cap s) M, F]) (fun u => (s.row x).length - u.1) ⟨0, (none, 0), (none, 0)⟩ (Nat.zero_le _) ⟨rfl, rfl, rfl, rfl, rfl, rfl, rfl, trivial⟩ ((slc_nil 3 1 _).trans ((slc_nil 32 3 _).trans (ent_take 1 rfl (ent_take 0 rfl (by repeat (first | exact ent_nil _ | refine ent_take 0 rfl ?_ | refine ent_take 1 rfl ?_ | refine ent_take 2 rfl ?_ | refine ent_take 3 rfl ?_ | refine ent_take 4 rfl ?_ | refine ent_take 5 rfl ?_ | refine ent_take 6 rfl ?_ | refine ent_take 7 rfl ?_ | refine ent_take 8 rfl ?_ | refine ent_take 9 rfl ?_ | refine ent_take 10 rfl ?_ | refine ent_take 11 rfl ?_ | refine ent_take 12 rfl ?_)))))) ?_
  rintro ⟨k, ⟨ga, gc⟩, ⟨ka, kc⟩⟩ hk ρ0
  dsimp only [updL] at hk ⊢
  refine TC.seq ?_
  refine TC.region ?_
  refine q rfl rfl (lss rfl rfl) ?_
  refine TL.nil (nt ?_)
  refine TC.seq ?_
  first | refine TC.condD rfl (fun hlt => ?_) (fun hlt => ?_) | refine TC.cond rfl (fun hlt => ?_) (fun hlt => ?_)
  · have hlt2 : k < (s.row x).length := by omega
    obtain ⟨o, ho⟩ : ∃ o, (s.row x)[k]? = some o := ⟨(s.row x)[k], List.getElem?_eq_getElem hlt2⟩
    have hpos : 0 < (ofsC (s.row x)).length := by omega
    have hg1 := gone_len (s.row x |>.take k) pr
    have hk1 : (((s.row x).take k).filter (notO pr)).length ≤ ((s.row x).take k).length := List.length_filter_le _ _
    have htl : ((s.row x).take k).length ≤ k := by rw [List.length_take]; omega
    have hgs := gone_snoc (pr := pr) ho
    have hks := fil_snoc (pr := notO pr) ho
    have hgi := ints_length (goneO ((s.row x).take k) pr)
    have hki := ofsC_length (((s.row x).take k).filter (notO pr))
    refine TC.skip (nt ?_)
    refine TC.seq ?_
    refine TC.block ?_
    refine TC.seq ?_
    refine TC.region ?_
    first | refine q rfl rfl (ixS 32 3 rfl rfl rfl (by omega) (by first | assumption | (simp [ints_length] <;> omega))) ?_ | refine q rfl rfl (ixJ 32 3 rfl rfl rfl (by omega) (by omega) (by first | assumption | (simp [ints_length] <;> omega))) ?_ | refine q rfl rfl (ix 32 3 rfl rfl rfl (by omega) (by omega) rfl) ?_
    first | refine q rfl rfl (ldN (vs := [_, _, _]) 3 rfl rfl rfl rfl) ?_ | refine q rfl rfl (ldSN (vs := [_, _, _]) 3 rfl rfl (flat_get_rec ofC_sz ho) rfl (by decide)) ?_ | refine q rfl rfl (ldSN (vs := [_, _, _]) 3 rfl rfl rfl rfl (by decide)) ?_
    refine e rfl ?_
    refine al (l := [.int _ _, .int _ _, .bool _]) rfl rfl ?_
    intro b4
    refine e0 ?_
    refine st (v := .agg #[_, _, _]) (vs := [_, _, _]) 3 rfl rfl rfl rfl rfl rfl (Nat.le_of_ble_eq_true rfl) rfl ?_
    refine TL.nil (nt ?_)
    refine TC.seq ?_
    refine TC.region ?_
    refine q rfl rfl (mv (v := .func (.func fc) #[] lb.toArray) rfl) ?_
    first | refine q rfl rfl (ldN (vs := [_, _, _]) 3 rfl rfl rfl rfl) ?_ | refine q rfl rfl (ldSN (vs := [_, _, _]) 3 rfl rfl (flat_get_rec ofC_sz ho) rfl (by decide)) ?_ | refine q rfl rfl (ldSN (vs := [_, _, _]) 3 rfl rfl rfl rfl (by decide)) ?_
    refine e rfl ?_
    refine clC (hclo o) rfl rfl (picked_nil _) (hm [_, _, _, _, _, _, _] _ hFc) ?_
    intro _ _
    change TL _ _ _ _ _ _ _ _ (sepL [_, _, _, _, _, _, _, _])
    refine TL.nil (nt ?_)
    cases hpr : pr o with
    | true => ?_
    | false => ?_
    · rw [hpr, if_pos rfl] at hgs
      rw [show notO pr o = false by rw [notO, hpr]; rfl, if_neg (by decide), List.append_nil] at hks
      refine TC.condT rfl ?_
      refine TC.region ?_
      refine q rfl rfl (mv (v := .slice _ _ _) rfl) ?_
      first | refine q rfl rfl (fa 0 rfl rfl) ?_ | refine q rfl rfl (faS 0 rfl rfl (by first | assumption | (simp [ints_length] <;> omega))) ?_
      first | refine q rfl rfl (ld rfl rfl rfl) ?_ | refine q rfl rfl (ldS rfl rfl (flat_get_rec ofC_sz ho)) ?_ | refine q rfl rfl (ldS rfl rfl rfl) ?_
      refine e rfl ?_
      refine bs (cs := [.int _ _]) rfl ?_
      intro b5
      refine e rfl ?_
      refine ap 8 rfl rfl rfl rfl rfl (Nat.le_of_ble_eq_true rfl) (show _ = ints [o.fr] from rfl) rfl (by omega) (by simp only [maxLen]; omega) ?_
      intro ad2 cap2
      refine q rfl rfl (asg (v := .slice _ _ _) rfl) ?_
      refine TL.nil (nb (nt ?_))
      refine TC.region ?_
      first | refine q rfl rfl (addI rfl rfl (by omega) (by omega)) ?_ | refine q rfl rfl (add rfl rfl rfl) ?_
      refine q rfl rfl (mv (v := .int _ _) rfl) ?_
      refine TL.nil (nt ?_)
      exact ⟨rfl, ⟨k + 1, (ad2, cap2), (ka, kc)⟩, (by dsimp only; omega), (by dsimp only; omega), ⟨rfl, rfl, congrArg (fun n => Value.slice _ n _) (by dsimp only; rw [hgs, List.length_append]; rfl), congrArg (fun n => Value.slice _ n _) (by dsimp only; rw [hks]), rfl, rfl, rfl, trivial⟩, (ent_takeE 0 rfl (by dsimp only; rw [hgs, List.length_append, ints_app1]; rfl) (ent_takeE 2 rfl (by dsimp only; rw [hks]) (by repeat (first | exact ent_nil _ | refine ent_take 0 rfl ?_ | refine ent_take 1 rfl ?_ | refine ent_take 2 rfl ?_ | refine ent_take 3 rfl ?_ | refine ent_take 4 rfl ?_ | refine ent_take 5 rfl ?_ | refine ent_take 6 rfl ?_ | refine ent_take 7 rfl ?_ | refine ent_take 8 rfl ?_ | refine ent_take 9 rfl ?_ | refine ent_take 10 rfl ?_ | refine ent_take 11 rfl ?_ | refine ent_take 12 rfl ?_))))⟩
    · rw [hpr, if_neg (by decide), List.append_nil] at hgs
      rw [show notO pr o = true by rw [notO, hpr]; rfl, if_pos rfl] at hks
      refine TC.condF rfl ?_
      refine TC.region ?_
      refine q rfl rfl (mv (v := .slice _ _ _) rfl) ?_
      first | refine q rfl rfl (ldN (vs := [_, _, _]) 3 rfl rfl rfl rfl) ?_ | refine q rfl rfl (ldSN (vs := [_, _, _]) 3 rfl rfl (flat_get_rec ofC_sz ho) rfl (by decide)) ?_ | refine q rfl rfl (ldSN (vs := [_, _, _]) 3 rfl rfl rfl rfl (by decide)) ?_
      refine e rfl ?_
      refine bs (cs := [.int _ _, .int _ _, .bool _]) rfl ?_
      intro b6
      refine e rfl ?_
      refine ap 24 rfl rfl rfl rfl rfl (Nat.le_of_ble_eq_true rfl) (show _ = ofsC [o] from rfl) rfl (by omega) (by simp only [maxLen]; omega) ?_
      intro ad3 cap3
      refine q rfl rfl (asg (v := .slice _ _ _) rfl) ?_
      refine TL.nil (nb (nt ?_))
      refine TC.region ?_
      first | refine q rfl rfl (addI rfl rfl (by omega) (by omega)) ?_ | refine q rfl rfl (add rfl rfl rfl) ?_
      refine q rfl rfl (mv (v := .int _ _) rfl) ?_
      refine TL.nil (nt ?_)
      exact ⟨rfl, ⟨k + 1, (ga, gc), (ad3, cap3)⟩, (by dsimp only; omega), (by dsimp only; omega), ⟨rfl, rfl, congrArg (fun n => Value.slice _ n _) (by dsimp only; rw [hgs]), congrArg (fun n => Value.slice _ n _) (by dsimp only; rw [hks, List.length_append]; rfl), rfl, rfl, rfl, trivial⟩, (ent_takeE 3 rfl (by dsimp only; rw [hgs]) (ent_takeE 0 rfl (by dsimp only; rw [hks, List.length_append, ofs_app]; rfl) (by repeat (first | exact ent_nil _ | refine ent_take 0 rfl ?_ | refine ent_take 1 rfl ?_ | refine ent_take 2 rfl ?_ | refine ent_take 3 rfl ?_ | refine ent_take 4 rfl ?_ | refine ent_take 5 rfl ?_ | refine ent_take 6 rfl ?_ | refine ent_take 7 rfl ?_ | refine ent_take 8 rfl ?_ | refine ent_take 9 rfl ?_ | refine ent_take 10 rfl ?_ | refine ent_take 11 rfl ?_ | refine ent_take 12 rfl ?_))))⟩
  · obtain rfl : k = (s.row x).length := by omega
    rw [List.take_length]
    refine TC.exit (et (et (eb (nt ?_))))
    refine TC.seq ?_
    refine TC.region ?_
    refine q rfl rfl (mv (v := .pointer _) rfl) ?_
    refine q rfl rfl (mv (v := .slice _ _ _) rfl) ?_
    first | refine q rfl rfl (nc rfl) ?_ | refine q rfl rfl (ncF rfl) ?_ | refine q rfl rfl (ncS rfl (by first | assumption | (simp [ints_length] <;> omega))) ?_
    first | refine q rfl rfl (fa 0 rfl rfl) ?_ | refine q rfl rfl (faS 0 rfl rfl (by first | assumption | (simp [ints_length] <;> omega))) ?_
    refine e0 ?_
    refine st (v := .slice _ _ _) (vs := [_]) 1 rfl rfl rfl rfl rfl rfl (Nat.le_of_ble_eq_true rfl) rfl ?_
    refine TL.nil (nt ?_)
    refine TC.seq ?_
    refine TC.region ?_
    refine q rfl rfl (mv (v := .slice _ _ _) rfl) ?_
    refine q rfl rfl (asg (v := .slice _ _ _) rfl) ?_
    refine TL.nil (nt ?_)
    refine TC.ret ?_
    exact Ret.i ⟨(ga, gc), (ka, kc)⟩ [_] ⟨rfl, trivial⟩ rfl trivial (ent_take 1 rfl (ent_closeB 0 3 x rfl rfl (by dsimp only [tP, frS, wtS, pushS, rowS, cutMS, clS, stS]; simp only [updI_same]; rfl) (fun y hy => by have h := hne y hy; dsimp only [tP, frS, wtS, pushS, rowS, cutMS, clS, stS]; simp only [updI_ne h]) hM.symm (ent_closeB 0 1 x rfl rfl (by dsimp only [rP, frS, wtS, pushS, rowS, cutMS, clS, stS]; simp only [updI_same]) (fun y hy => by have h := hne y hy; dsimp only [rP, frS, wtS, pushS, rowS, cutMS, clS, stS]; simp only [updI_ne h]) hM.symm (ent_take 1 rfl (ent_nil _)))))

set_option maxRecDepth 4000 in
theorem cloneO_ok (ad : Option Addr) (cap : Nat) (S : List Off) (hl : S.length ≤ 1000000) : FSpec Try.prog 76 [.slice ad S.length cap] (fun F => ∃ E, RdS F E ad (ofsC S)) [] (fun y : Option Addr × Nat => .slice y.1 S.length y.2) (fun _ => True) (fun y => [slc 32 3 y.1 S.length y.2 (ofsC S)]) := by
  refine FSpec.intro (rs := [.tmp 2]) (by kernel_rfl) Try.func76 rfl Try.ntmps76 (by rfl) rfl ?_
  intro F ⟨E, hF⟩
  change TC _ _ _ _ _ _ _ (sepL [_])
  haveI : RdSI F ad E (ofsC S) := ⟨hF⟩
  have hxl := ofsC_length S
  refine TC.seq ?_
  refine TC.region ?_
  refine q rfl rfl (asg (v := .slice _ _ _) rfl) ?_
  refine TL.nil (nt ?_)
  refine TC.seq ?_
  refine TC.seq ?_
  refine TC.region ?_
  refine q rfl rfl (mv (v := .slice _ _ _) rfl) ?_
  refine q rfl rfl (eqSl rfl rfl rfl) ?_
  refine TL.nil (nt ?_)
  cases ad with
  | none => ?_
  | some a0 => ?_
  · refine TC.fact (fun hh hx => RdS_none (RdS_l hF) hh hx) (fun hnil => ?_)
    obtain rfl : S = [] := by
      cases S with
      | nil => rfl
      | cons o r => rw [hnil] at hxl; simp at hxl
    refine TC.condT rfl ?_
    refine TC.seq ?_
    refine TC.region ?_
    refine q rfl rfl (asg (v := .slice _ _ _) rfl) ?_
    refine TL.nil (nt ?_)
    refine TC.ret (rt ?_)
    exact Ret.i ⟨none, 0⟩ [_] ⟨rfl, trivial⟩ rfl trivial ((slc_nil 32 3 _).trans (ent_takeE 0 rfl (by simp [ofsC]) (ent_take 0 rfl (ent_nil _))))
  · refine TC.condF rfl ?_
    refine TC.skip (nt ?_)
    refine TC.seq ?_
    refine TC.region ?_
    refine e rfl ?_
    refine bs (cs := []) rfl ?_
    intro b7
    refine q rfl rfl (mv (v := .slice _ _ _) rfl) ?_
    refine e rfl ?_
    refine ap 24 rfl rfl rfl rfl rfl (by omega) (ofs_all S) (ofs_one _) (by omega) (by simp only [maxLen]; omega) ?_
    intro ad4 cap4
    refine q rfl rfl (asg (v := .slice _ _ _) rfl) ?_
    refine TL.nil (nt ?_)
    refine TC.ret ?_
    exact Ret.i ⟨ad4, cap4⟩ [_] ⟨rfl, trivial⟩ (by rw [Nat.zero_add]; rfl) trivial (ent_takeE 0 rfl (by rw [Nat.zero_add, List.nil_append]) (ent_take 0 rfl (ent_nil _)))

set_option maxRecDepth 4000 in
theorem mat_yes (b mb n : Nat) (A : Int → Nat) (ids : List Int) (id : Int) (h : id ∈ ids) : FSpec Try.prog 62 [.pointer (some ⟨b, 0, none⟩), .int .i64 id] noRd [pts b 96 [.map (some mb)], mapF encI mb (fM A ids) n] (fun _ : Unit => .tuple #[.pointer (some ⟨(A id), 0, none⟩), .int .i64 0]) (fun _ => True) (fun _ => [pts b 96 [.map (some mb)], mapF encI mb (fM A ids) n]) := by
  refine FSpec.intro (rs := [.tmp 4, .tmp 5]) (by kernel_rfl) Try.func62 rfl Try.ntmps62 (by rfl) rfl ?_
  intro F _
  change TC _ _ _ _ _ _ _ (sepL [_, _, _])
  refine TC.seq ?_
  refine TC.region ?_
  refine q rfl rfl (asg rfl) ?_
  refine q rfl rfl (asg rfl) ?_
  refine TL.nil (nt ?_)
  refine TC.seq ?_
  refine TC.seq ?_
  refine TC.region ?_
  refine q rfl rfl (mv rfl) ?_
  refine q rfl rfl (eqNil rfl rfl rfl) ?_
  refine TL.nil (nt ?_)
  refine TC.condF rfl ?_
  refine TC.skip (nt ?_)
  refine TC.seq ?_
  refine TC.region ?_
  refine q rfl rfl (mv rfl) ?_
  first | refine q rfl rfl (nc rfl) ?_ | refine q rfl rfl (ncF rfl) ?_ | refine q rfl rfl (ncS rfl (by first | assumption | (simp [ints_length] <;> omega))) ?_
  first | refine q rfl rfl (fa 0 rfl rfl) ?_ | refine q rfl rfl (faS 0 rfl rfl (by first | assumption | (simp [ints_length] <;> omega))) ?_
  first | refine q rfl rfl (ld rfl rfl rfl) ?_ | refine q rfl rfl (ldS rfl rfl rfl) ?_
  refine q rfl rfl (mv rfl) ?_
  refine q rfl rfl (luF 3 97 rfl rfl (KL.int rfl) rfl rfl) ?_
  rw [fM_yes h]
  refine q rfl rfl (asg (v := .pointer _) rfl) ?_
  refine TL.nil (nt ?_)
  refine TC.seq ?_
  refine TC.seq ?_
  refine TC.region ?_
  refine q rfl rfl (mv (v := .pointer _) rfl) ?_
  refine q rfl rfl (eqNil rfl rfl rfl) ?_
  refine TL.nil (nt ?_)
  refine TC.condF rfl ?_
  refine TC.skip (nt ?_)
  refine TC.seq ?_
  refine TC.region ?_
  refine q rfl rfl (mv (v := .pointer _) rfl) ?_
  refine q rfl rfl (asg (v := .pointer _) rfl) ?_
  refine q rfl rfl (asg (v := .int _ _) rfl) ?_
  refine TL.nil (nt ?_)
  refine TC.ret ?_
  exact Ret.i () [_, _] ⟨rfl, rfl, trivial⟩ rfl trivial (ent_take 0 rfl (ent_take 0 rfl (ent_take 0 rfl (ent_nil _))))

set_option maxRecDepth 4000 in
theorem mat_no (b mb n : Nat) (A : Int → Nat) (ids : List Int) (id : Int) (h : id ∉ ids) : FSpec Try.prog 62 [.pointer (some ⟨b, 0, none⟩), .int .i64 id] noRd [pts b 96 [.map (some mb)], mapF encI mb (fM A ids) n] (fun _ : Unit => .tuple #[.pointer none, .int .i64 6]) (fun _ => True) (fun _ => [pts b 96 [.map (some mb)], mapF encI mb (fM A ids) n]) := by
  refine FSpec.intro (rs := [.tmp 4, .tmp 5]) (by kernel_rfl) Try.func62 rfl Try.ntmps62 (by rfl) rfl ?_
  intro F _
  change TC _ _ _ _ _ _ _ (sepL [_, _, _])
  refine TC.seq ?_
  refine TC.region ?_
  refine q rfl rfl (asg rfl) ?_
  refine q rfl rfl (asg rfl) ?_
  refine TL.nil (nt ?_)
  refine TC.seq ?_
  refine TC.seq ?_
  refine TC.region ?_
  refine q rfl rfl (mv rfl) ?_
  refine q rfl rfl (eqNil rfl rfl rfl) ?_
  refine TL.nil (nt ?_)
  refine TC.condF rfl ?_
  refine TC.skip (nt ?_)
  refine TC.seq ?_
  refine TC.region ?_
  refine q rfl rfl (mv rfl) ?_
  first | refine q rfl rfl (nc rfl) ?_ | refine q rfl rfl (ncF rfl) ?_ | refine q rfl rfl (ncS rfl (by first | assumption | (simp [ints_length] <;> omega))) ?_
  first | refine q rfl rfl (fa 0 rfl rfl) ?_ | refine q rfl rfl (faS 0 rfl rfl (by first | assumption | (simp [ints_length] <;> omega))) ?_
  first | refine q rfl rfl (ld rfl rfl rfl) ?_ | refine q rfl rfl (ldS rfl rfl rfl) ?_
  refine q rfl rfl (mv rfl) ?_
  refine q rfl rfl (luF 3 97 rfl rfl (KL.int rfl) rfl rfl) ?_
  rw [fM_no h]
  refine q rfl rfl (asg (v := .pointer _) rfl) ?_
  refine TL.nil (nt ?_)
  refine TC.seq ?_
  refine TC.seq ?_
  refine TC.region ?_
  refine q rfl rfl (mv (v := .pointer _) rfl) ?_
  refine q rfl rfl (eqNil rfl rfl rfl) ?_
  refine TL.nil (nt ?_)
  refine TC.condT rfl ?_
  refine TC.seq ?_
  refine TC.region ?_
  refine q rfl rfl (asg (v := .pointer _) rfl) ?_
  refine q rfl rfl (asg (v := .int _ _) rfl) ?_
  refine TL.nil (nt ?_)
  refine TC.ret (rt ?_)
  exact Ret.i () [_, _] ⟨rfl, rfl, trivial⟩ rfl trivial (ent_take 0 rfl (ent_take 0 rfl (ent_take 0 rfl (ent_nil _))))

set_option maxRecDepth 4000 in
theorem mat_nil (id : Int) : FSpec Try.prog 62 [.pointer none, .int .i64 id] noRd [] (fun _ : Unit => .tuple #[.pointer none, .int .i64 1]) (fun _ => True) (fun _ => []) := by
  refine FSpec.intro (rs := [.tmp 4, .tmp 5]) (by kernel_rfl) Try.func62 rfl Try.ntmps62 (by rfl) rfl ?_
  intro F _
  change TC _ _ _ _ _ _ _ (sepL [_])
  refine TC.seq ?_
  refine TC.region ?_
  refine q rfl rfl (asg (v := .pointer _) rfl) ?_
  refine q rfl rfl (asg (v := .int _ _) rfl) ?_
  refine TL.nil (nt ?_)
  refine TC.seq ?_
  refine TC.seq ?_
  refine TC.region ?_
  refine q rfl rfl (mv (v := .pointer _) rfl) ?_
  refine q rfl rfl (eqNil rfl rfl rfl) ?_
  refine TL.nil (nt ?_)
  refine TC.condT rfl ?_
  refine TC.seq ?_
  refine TC.region ?_
  refine q rfl rfl (asg (v := .pointer _) rfl) ?_
  refine q rfl rfl (asg (v := .int _ _) rfl) ?_
  refine TL.nil (nt ?_)
  refine TC.ret (rt ?_)
  exact Ret.i () [_, _] ⟨rfl, rfl, trivial⟩ rfl trivial (ent_take 0 rfl (ent_nil _))

end Go.Proofs.Ytdfmfhcjnjfjbaa
