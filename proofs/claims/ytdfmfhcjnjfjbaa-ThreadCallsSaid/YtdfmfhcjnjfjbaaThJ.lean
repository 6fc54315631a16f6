/-
  Proved here: what functions of this program compute, each as a contract over symbolic states, under the premises that each theorem names (most lines printed by a program of the prover).
-/
import Derived.Test.YtdfmfhcjnjfjbaaThF
namespace Go.Proofs.Ytdfmfhcjnjfjbaa
open Go Go.QM
open Al (En hasA Nd clrA setA offA dueA restA leftA)
open Rd (hasS NdS addS RInv topS runS tickS yieldS rndS)
theorem send_go {T : TS} {fr to gt : Int} {cl : Bool} {ticks : Int} (h1 : fr ∈ T.m.ids) (h0 : to ∈ T.m.ids) (hne : fr ≠ to) (h2 : ¬ badT ticks) (h3 : stT T fr = 0) : sendS T fr to gt cl ticks = (blockS (mS T (offS T.m to ⟨fr, gt, cl⟩).1) fr ticks, 0) := by
  rw [sendS, if_neg (fun h => h.elim (fun h => h h1) (fun h => h h0)), if_neg (fun h => h.elim hne h2), if_neg (fun h => h h3)]
theorem block_set {T : TS} {id ticks : Int} (h0 : 0 ≤ id) (ht : 1 ≤ ticks ∧ ticks ≤ 1048576) (hA : T.A = []) : blockS T id ticks = { T with S := Rd.dropS T.S [id], tn := T.tn + 1, A := [⟨T.now + ticks, T.tn + 1, id⟩] } := by
  have hs : setA T.A T.now T.tn id ticks = ([⟨T.now + ticks, T.tn + 1, id⟩], T.tn + 1, 0) := by
    rw [hA, setA, if_neg (by omega), if_neg (fun ⟨e, he, _⟩ => by cases he)]; rfl
  rw [blockS, if_pos (by omega), hs]
def CA : TS := addL t0 [1, 2, 3]
theorem CA_n : (CA.m.ids.length : Int) - (t0.m.ids.length : Int) = 3 := by kernel_rfl
theorem CA_g : TG CA 0 := TG.zero.adds _ (by decide)
def CB : TS := (startS CA 1 4 3).1
def CC : TS := (startS CB 2 5 3).1
def CD : TS := (startS CC 3 2 3).1
theorem cl_a : startS CA 1 4 3 = (CB, 0) ∧ startS CB 2 5 3 = (CC, 0) ∧ startS CC 3 2 3 = (CD, 0) := ⟨by kernel_rfl, by kernel_rfl, by kernel_rfl⟩
def t1_ : Rd.Th := ⟨1, 4, 3, 3⟩
def t2_ : Rd.Th := ⟨2, 5, 3, 3⟩
def t3_ : Rd.Th := ⟨3, 2, 3, 3⟩
def CK (S : List Rd.Th) (z : Int) : TS := { CD with S := S, tn := z }
theorem CD_K : CD = CK [t1_, t2_, t3_] 0 := by kernel_rfl
def F1 (S : List Rd.Th) (z : Int) : TS := (waitS (CK S z) 2 0).1
def csnd (T : TS) (g : Int) (A : List En) (z : Int) : TS := { T with m := (offS T.m 2 ⟨1, g, true⟩).1, S := Rd.dropS T.S [1], A := A, tn := z }
def F2 (S : List Rd.Th) (z g : Int) (A : List En) (z2 : Int) : TS := csnd (F1 S z) g A z2
def F3 (S : List Rd.Th) (z g : Int) (A : List En) (z2 : Int) : TS := (takeT (F2 S z g A z2) 2).1
def F4 (S : List Rd.Th) (z g : Int) (A : List En) (z2 : Int) : TS := (answerS (F3 S z g A z2) 2).1
def N2 (S : List Rd.Th) (z g : Int) (A : List En) (z2 : Int) : TS := csnd (CK S z) g A z2
def N3 (S : List Rd.Th) (z g : Int) (A : List En) (z2 : Int) : TS := (takeT (N2 S z g A z2) 2).1
def N4 (S : List Rd.Th) (z g : Int) (A : List En) (z2 : Int) : TS := (answerS (N3 S z g A z2) 2).1
theorem fn_ext {α : Type} {f g : Int → α} (h1 : f 1 = g 1) (h2 : f 2 = g 2) (h : ∀ x, x ≠ 1 → x ≠ 2 → f x = g x) : f = g := funext fun x => by
  by_cases e1 : x = 1
  · rw [e1]; exact h1
  · by_cases e2 : x = 2
    · rw [e2]; exact h2
    · exact h x e1 e2
def mF (g : Int) : MS := (ansS (takeS (offS (openS CD.m 2).1 2 ⟨1, g, true⟩).1 2).1 2).1
def mN (g : Int) : MS := (ansS (takeS (offS CD.m 2 ⟨1, g, true⟩).1 2).1 2).1
theorem MS_ext {a b : MS} (h1 : a.ids = b.ids) (h2 : a.st = b.st) (h3 : a.cl = b.cl) (h4 : a.pn = b.pn) (h5 : a.row = b.row) : a = b := by
  obtain ⟨a1, a2, a3, a4, a5⟩ := a
  obtain ⟨b1, b2, b3, b4, b5⟩ := b
  cases h1; cases h2; cases h3; cases h4; cases h5; rfl
theorem mF_eq (g : Int) : mF g = CD.m := by
  refine MS_ext (by kernel_rfl) (fn_ext (by kernel_rfl) (by kernel_rfl) fun x h1 h2 => ?_) (fn_ext (by kernel_rfl) (by kernel_rfl) fun x h1 h2 => ?_) (fn_ext (by kernel_rfl) (by kernel_rfl) fun x h1 h2 => ?_) (fn_ext (by kernel_rfl) (by kernel_rfl) fun x h1 h2 => ?_)
  · have : (mF g).st = updI (updI (updI (updI (updI (updI CD.m.st 2 2) 1 1) 2 0) 1 0) 1 3) 1 0 := by kernel_rfl
    rw [this]; simp only [updI_ne h1, updI_ne h2]
  · have : (mF g).cl = updI (updI CD.m.cl 2 1) 2 (-1) := by kernel_rfl
    rw [this]; simp only [updI_ne h1, updI_ne h2]
  · have : (mF g).pn = updI (updI (updI (updI (updI CD.m.pn 1 2) 2 (-1)) 1 (-1)) 1 2) 1 (-1) := by kernel_rfl
    rw [this]; simp only [updI_ne h1, updI_ne h2]
  · have : (mF g).row = updI (updI CD.m.row 2 [⟨1, g, true⟩]) 2 [] := by kernel_rfl
    rw [this]; simp only [updI_ne h1, updI_ne h2]
theorem mN_eq (g : Int) : mN g = CD.m := by
  refine MS_ext (by kernel_rfl) (fn_ext (by kernel_rfl) (by kernel_rfl) fun x h1 h2 => ?_) (fn_ext (by kernel_rfl) (by kernel_rfl) fun x h1 h2 => ?_) (fn_ext (by kernel_rfl) (by kernel_rfl) fun x h1 h2 => ?_) (fn_ext (by kernel_rfl) (by kernel_rfl) fun x h1 h2 => ?_)
  · have : (mN g).st = updI (updI (updI (updI (updI CD.m.st 1 1) 2 0) 1 0) 1 3) 1 0 := by kernel_rfl
    rw [this]; simp only [updI_ne h1, updI_ne h2]
  · have : (mN g).cl = updI (updI CD.m.cl 2 1) 2 (-1) := by kernel_rfl
    rw [this]; simp only [updI_ne h1, updI_ne h2]
  · have : (mN g).pn = updI (updI (updI (updI (updI CD.m.pn 1 2) 2 (-1)) 1 (-1)) 1 2) 1 (-1) := by kernel_rfl
    rw [this]; simp only [updI_ne h1, updI_ne h2]
  · have : (mN g).row = updI (updI CD.m.row 2 [⟨1, g, true⟩]) 2 [] := by kernel_rfl
    rw [this]; simp only [updI_ne h1, updI_ne h2]
def S0_ : List Rd.Th := [t1_, t2_, t3_]
def S1_ : List Rd.Th := [t3_, t2_, t1_]
def S2_ : List Rd.Th := [t2_, t3_, t1_]
def okA (A : List En) : Prop := A = [] ∨ ∃ w y, A = [⟨w, y, 1⟩]
theorem snd_any {T : TS} {g tk : Int} (htk : 0 ≤ tk ∧ tk ≤ 255) (h1 : (1 : Int) ∈ T.m.ids) (h2 : (2 : Int) ∈ T.m.ids) (h3 : stT T 1 = 0) (hA : T.A = []) : ∃ A z, okA A ∧ sendS T 1 2 g true tk = (csnd T g A z, 0) := by
  by_cases h0 : tk = 0
  · subst h0
    refine ⟨[], T.tn, .inl rfl, ?_⟩
    rw [send_go h1 h2 (by decide) (by rw [badT]; omega) h3, blockS, if_neg (by decide)]
    obtain ⟨S, now, tn, A, m, pr, sl, on, told⟩ := T
    dsimp only at hA
    subst hA; rfl
  · refine ⟨[⟨T.now + tk, T.tn + 1, 1⟩], T.tn + 1, .inr ⟨_, _, rfl⟩, ?_⟩
    rw [send_go h1 h2 (by decide) (by rw [badT]; omega) h3, block_set (T := mS T (offS T.m 2 ⟨1, g, true⟩).1) (by decide) (by omega) hA]; rfl
theorem c_first {S : List Rd.Th} (hS : S = S0_ ∨ S = S1_) (z g : Int) {tk : Int} (htk : 0 ≤ tk ∧ tk ≤ 255) : waitS (CK S z) 2 0 = (F1 S z, 0) ∧ runS (F1 S z).S = 1 ∧ ∃ A z2, sendS (F1 S z) 1 2 g true tk = (F2 S z g A z2, 0) ∧ runS (F2 S z g A z2).S = 3 ∧
    takeT (F2 S z g A z2) 2 = (F3 S z g A z2, ⟨1, g, true⟩, 0) ∧ stT (F3 S z g A z2) 1 = 3 ∧ runS (F3 S z g A z2).S = 2 ∧ clR (F3 S z g A z2).m 2 = 1 ∧ answerS (F3 S z g A z2) 2 = (F4 S z g A z2, 1, 0) ∧ (F4 S z g A z2).told = [⟨2, 0⟩, ⟨1, 0⟩] ∧ stT (F4 S z g A z2) 1 = 0 ∧
    toldT (F4 S z g A z2) = CK S1_ z2 ∧ leftA (CK S1_ z2).A (CK S1_ z2).now 1 = 0 := by
  have hm : ∀ A z2, (F4 S z g A z2).m = CD.m := fun A z2 => by
    rw [← mF_eq g]
    rcases hS with rfl | rfl <;> kernel_rfl
  have hids : (F1 S z).m.ids = [1, 2, 3] := by rcases hS with rfl | rfl <;> kernel_rfl
  have hst : stT (F1 S z) 1 = 0 := by rcases hS with rfl | rfl <;> kernel_rfl
  have hA0 : (F1 S z).A = [] := by rcases hS with rfl | rfl <;> kernel_rfl
  obtain ⟨A, z2, hA, hs⟩ := snd_any (T := F1 S z) (g := g) htk (by rw [hids]; simp) (by rw [hids]; simp) hst hA0
  clear hids hst hA0
  rcases hS with rfl | rfl
  all_goals
    refine ⟨by kernel_rfl, by kernel_rfl, ?_⟩
    refine ⟨A, z2, hs, by kernel_rfl, by kernel_rfl, by kernel_rfl, by kernel_rfl, by kernel_rfl, by kernel_rfl, by kernel_rfl, by kernel_rfl, ?_, by kernel_rfl⟩
    have hm := hm A z2
    have e1 : ∀ T : TS, T.m = CD.m → T.S = S1_ → T.now = CD.now → T.tn = z2 → T.A = CD.A → T.pr = CD.pr → T.sl = CD.sl → T.on = CD.on → toldT T = CK S1_ z2 := fun T a1 a2 a3 a4 a5 a6 a7 a8 => by
      obtain ⟨b1, b2, b3, b4, b5, b6, b7, b8, b9⟩ := T
      dsimp only at a1 a2 a3 a4 a5 a6 a7 a8
      subst a1 a2 a3 a4 a5 a6 a7 a8; rfl
    refine e1 _ hm (by kernel_rfl) (by kernel_rfl) (by kernel_rfl) ?_ (by kernel_rfl) (by kernel_rfl) (by kernel_rfl)
    rcases hA with rfl | ⟨w, y, rfl⟩ <;> kernel_rfl
theorem c_not {S : List Rd.Th} (hS : S = S0_ ∨ S = S2_) (z g : Int) {tk : Int} (htk : 0 ≤ tk ∧ tk ≤ 255) : ∃ A z2, sendS (CK S z) 1 2 g true tk = (N2 S z g A z2, 0) ∧ runS (N2 S z g A z2).S = 2 ∧
    takeT (N2 S z g A z2) 2 = (N3 S z g A z2, ⟨1, g, true⟩, 0) ∧ stT (N3 S z g A z2) 1 = 3 ∧ runS (N3 S z g A z2).S = 2 ∧ clR (N3 S z g A z2).m 2 = 1 ∧ answerS (N3 S z g A z2) 2 = (N4 S z g A z2, 1, 0) ∧ (N4 S z g A z2).told = [⟨1, 0⟩] ∧ stT (N4 S z g A z2) 1 = 0 ∧
    toldT (N4 S z g A z2) = CK S2_ z2 ∧ leftA (CK S2_ z2).A (CK S2_ z2).now 1 = 0 := by
  have hm : ∀ A z2, (N4 S z g A z2).m = CD.m := fun A z2 => by
    rw [← mN_eq g]
    rcases hS with rfl | rfl <;> kernel_rfl
  have hids : (CK S z).m.ids = [1, 2, 3] := by kernel_rfl
  have hst : stT (CK S z) 1 = 0 := by kernel_rfl
  have hA0 : (CK S z).A = [] := by kernel_rfl
  obtain ⟨A, z2, hA, hs⟩ := snd_any (T := CK S z) (g := g) htk (by rw [hids]; simp) (by rw [hids]; simp) hst hA0
  clear hids hst hA0
  rcases hS with rfl | rfl
  all_goals
    refine ⟨A, z2, hs, by kernel_rfl, by kernel_rfl, by kernel_rfl, by kernel_rfl, by kernel_rfl, by kernel_rfl, by kernel_rfl, by kernel_rfl, ?_, by kernel_rfl⟩
    have hm := hm A z2
    have e1 : ∀ T : TS, T.m = CD.m → T.S = S2_ → T.now = CD.now → T.tn = z2 → T.A = CD.A → T.pr = CD.pr → T.sl = CD.sl → T.on = CD.on → toldT T = CK S2_ z2 := fun T a1 a2 a3 a4 a5 a6 a7 a8 => by
      obtain ⟨b1, b2, b3, b4, b5, b6, b7, b8, b9⟩ := T
      dsimp only at a1 a2 a3 a4 a5 a6 a7 a8
      subst a1 a2 a3 a4 a5 a6 a7 a8; rfl
    refine e1 _ hm (by kernel_rfl) (by kernel_rfl) (by kernel_rfl) ?_ (by kernel_rfl) (by kernel_rfl) (by kernel_rfl)
    rcases hA with rfl | ⟨w, y, rfl⟩ <;> kernel_rfl
def E1 (S : List Rd.Th) (z : Int) : TS := (sendS (CK S z) 1 2 0 true 0).1
def E2 (S : List Rd.Th) (z : Int) : TS := (sendS (E1 S z) 3 2 0 true 0).1
def E3 (S : List Rd.Th) (z : Int) : TS := (takeT (E2 S z) 2).1
def E4 (S : List Rd.Th) (z : Int) : TS := (takeT (E3 S z) 2).1
theorem c_end {S : List Rd.Th} (hS : S = S0_ ∨ S = S1_ ∨ S = S2_) (z : Int) : sendS (CK S z) 1 2 0 true 0 = (E1 S z, 0) ∧ sendS (E1 S z) 3 2 0 true 0 = (E2 S z, 0) ∧ takeT (E2 S z) 2 = (E3 S z, ⟨1, 0, true⟩, 0) ∧ takeT (E3 S z) 2 = (E4 S z, ⟨3, 0, true⟩, 0) ∧ clR (E4 S z).m 2 = 3 ∧ (E4 S z).told = [⟨1, 13⟩] := by
  rcases hS with rfl | rfl | rfl <;> exact ⟨by kernel_rfl, by kernel_rfl, by kernel_rfl, by kernel_rfl, by kernel_rfl, by kernel_rfl⟩
def okS (f : Bool) (S : List Rd.Th) : Prop := S = S0_ ∨ (f = true ∧ S = S1_) ∨ (f = false ∧ S = S2_)

set_option maxRecDepth 4000 in
set_option maxHeartbeats 4000000 in
theorem tcalls_ok (n : Int) (f : Bool) (tk : Int) (hn : 0 ≤ n ∧ n ≤ 255) (htk : 0 ≤ tk ∧ tk ≤ 255) : FSpec Try.prog 3 [.int .u8 n, .bool f, .int .u8 tk] noRd [] (fun _ : Unit => .bool true) (fun _ => True) (fun _ => []) := by
  refine FSpec.intro (rs := [.tmp 6]) (by kernel_rfl) Try.func3 rfl Try.ntmps3 (by rfl) rfl ?_
  intro F _
  change TC _ _ _ _ _ _ _ (sepL [_])
  refine TC.seq ?_
  refine TC.region ?_
  refine q rfl rfl (asg (v := .bool _) rfl) ?_
  refine TL.nil (nt ?_)
  refine TC.seq ?_
  refine TC.seq ?_
  refine TC.region ?_
  refine e rfl ?_
  refine cl alive_ok rfl (picked_nil _) trivial ?_
  intro _ _
  change TL _ _ _ _ _ _ _ _ (sepL [_])
  first | refine q rfl rfl (notD rfl) ?_ | refine q rfl rfl (notB rfl) ?_
  refine TL.nil (nt ?_)
  refine TC.condF rfl ?_
  refine TC.skip (nt ?_)
  refine TC.seq ?_
  refine TC.region ?_
  refine e rfl ?_
  refine cl tnew_ok rfl (picked_nil _) trivial ?_
  intro a _
  change TL _ _ _ _ _ _ _ _ (sepL [_, _])
  refine q rfl rfl (asg (v := .pointer _) rfl) ?_
  refine TL.nil (nt ?_)
  refine TC.seq ?_
  refine TC.seq ?_
  refine TC.region ?_
  refine q rfl rfl (mv (v := .pointer _) rfl) ?_
  refine e rfl ?_
  refine bs (cs := [.int _ _, .int _ _, .int _ _]) rfl ?_
  intro b1
  obtain ⟨e1, e2, e3⟩ := cl_a
  refine e rfl ?_
  refine cl (tadd_ok a t0 (some ⟨b1, 0, none⟩) _ [1, 2, 3] (by decide) (by decide)) rfl PkL.p ⟨_, RdSI.rd (ad := some ⟨b1, 0, none⟩)⟩ ?_
  intro _ _
  change TL _ _ _ _ _ _ _ _ (sepL [_, _, _])
  rw [show addL t0 [1, 2, 3] = CA from rfl, CA_n]
  have g1 := CA_g
  refine q rfl rfl (neI rfl rfl) ?_
  refine q rfl rfl (mv (v := .bool _) rfl) ?_
  refine TL.known 25 rfl (c := false) (by decide) ?_
  refine qg rfl rfl rfl (mv (v := .pointer _) rfl) ?_
  refine eg rfl rfl ?_
  refine cl (tstart_ok a CA g1.p (g1.tb (by omega)) 1 4 3) rfl PkL.p trivial ?_
  intro _ _
  change TL _ _ _ _ _ _ _ _ (sepL [_, _, _])
  rw [e1]
  dsimp only
  have g2 := g1.start 1 4 3
  rw [e1] at g2
  dsimp only at g2
  refine qg rfl rfl rfl (neI rfl rfl) ?_
  first | refine q rfl rfl (pkT (v := .bool _) rfl rfl) ?_ | refine q rfl rfl (pkF (v := .bool _) rfl rfl) ?_
  refine q rfl rfl (mv (v := .bool _) rfl) ?_
  refine TL.known 30 rfl (c := false) (by decide) ?_
  refine qg rfl rfl rfl (mv (v := .pointer _) rfl) ?_
  refine eg rfl rfl ?_
  refine cl (tstart_ok a CB g2.p (g2.tb (by omega)) 2 5 3) rfl PkL.p trivial ?_
  intro _ _
  change TL _ _ _ _ _ _ _ _ (sepL [_, _, _])
  rw [e2]
  dsimp only
  have g3 := g2.start 2 5 3
  rw [e2] at g3
  dsimp only at g3
  refine qg rfl rfl rfl (neI rfl rfl) ?_
  first | refine q rfl rfl (pkT (v := .bool _) rfl rfl) ?_ | refine q rfl rfl (pkF (v := .bool _) rfl rfl) ?_
  refine q rfl rfl (mv (v := .bool _) rfl) ?_
  refine TL.known 35 rfl (c := false) (by decide) ?_
  refine qg rfl rfl rfl (mv (v := .pointer _) rfl) ?_
  refine eg rfl rfl ?_
  refine cl (tstart_ok a CC g3.p (g3.tb (by omega)) 3 2 3) rfl PkL.p trivial ?_
  intro _ _
  change TL _ _ _ _ _ _ _ _ (sepL [_, _, _])
  rw [e3]
  dsimp only
  have g4 := g3.start 3 2 3
  rw [e3] at g4
  dsimp only at g4
  rw [CD_K] at g4 ⊢
  rw [show [t1_, t2_, t3_] = S0_ from rfl] at g4 ⊢
  refine qg rfl rfl rfl (neI rfl rfl) ?_
  first | refine q rfl rfl (pkT (v := .bool _) rfl rfl) ?_ | refine q rfl rfl (pkF (v := .bool _) rfl rfl) ?_
  refine TL.nil (nt ?_)
  refine TC.condF rfl ?_
  refine TC.skip (nt ?_)
  refine TC.seq ?_
  refine TC.seq ?_
  refine TC.region ?_
  refine q rfl rfl (asg (v := .int _ _) rfl) ?_
  refine TL.nil (nt ?_)
  refine TC.block ?_
  refine TC.loop (ι := Nat × List Rd.Th × Int) (fun u => u.1 ≤ 10 ∧ okS f u.2.1 ∧ TG (CK u.2.1 u.2.2) (10 + 6 * u.1)) (fun u => [(0, .int .u8 n), (1, .bool f), (2, .int .u8 tk), (7, .pointer (some ⟨a, 0, none⟩)), (8, .int .i64 ((u.1 : Nat) : Int))]) (fun u => sepL [isT a (CK u.2.1 u.2.2), F]) (fun u => 20 - u.1) ⟨0, S0_, 0⟩ ⟨by decide, .inl rfl, g4.up (by decide)⟩ ⟨rfl, rfl, rfl, rfl, rfl, trivial⟩ (by repeat (first | exact ent_nil _ | refine ent_take 0 rfl ?_ | refine ent_take 1 rfl ?_ | refine ent_take 2 rfl ?_ | refine ent_take 3 rfl ?_ | refine ent_take 4 rfl ?_ | refine ent_take 5 rfl ?_ | refine ent_take 6 rfl ?_ | refine ent_take 7 rfl ?_ | refine ent_take 8 rfl ?_ | refine ent_take 9 rfl ?_ | refine ent_take 10 rfl ?_ | refine ent_take 11 rfl ?_ | refine ent_take 12 rfl ?_)) ?_
  rintro ⟨i, S, z⟩ ⟨hi10, hS, hg⟩ ρ0
  dsimp only [updL] at hi10 hS hg ⊢
  refine TC.seq ?_
  refine TC.seq ?_
  refine TC.region ?_
  refine q rfl rfl (mv (v := .int _ _) rfl) ?_
  refine q rfl rfl (mv (v := .int _ _) rfl) ?_
  first | refine q rfl rfl (conv .u8 .i64 rfl rfl rfl (wi64 (by omega) (by omega))) ?_ | refine q rfl rfl (conv .u8 .i64 rfl rfl rfl rfl) ?_
  first | refine q rfl rfl (remI rfl rfl (by omega) (by omega)) ?_ | refine q rfl rfl (rem rfl rfl (by omega) rfl) ?_
  first | refine q rfl rfl (addI rfl rfl (by omega) (by omega)) ?_ | refine q rfl rfl (add rfl rfl rfl) ?_
  refine q rfl rfl (lss rfl rfl) ?_
  refine TL.nil (nt ?_)
  first | refine TC.condD rfl (fun hlt => ?_) (fun hlt => ?_) | refine TC.cond rfl (fun hlt => ?_) (fun hlt => ?_)
  · have hi : i < 10 := by omega
    cases hf : f with
    | true => ?_
    | false => ?_
    · subst hf
      obtain ⟨q1, q2, A, z2, q3, q4, q5, q6, q7, q8, q9, q10, q11, q12, q13⟩ := c_first (S := S) (hS.imp id fun h => h.elim (fun h => h.2) (fun h => by cases h.1)) z (i : Int) htk
      refine TC.skip (nt ?_)
      refine TC.seq ?_
      refine TC.block ?_
      refine TC.seq ?_
      refine TC.seq ?_
      refine TC.region ?_
      refine q rfl rfl (mv (v := .bool _) rfl) ?_
      refine q rfl rfl (mv (v := .bool _) rfl) ?_
      refine qg rfl rfl rfl (mv (v := .pointer _) rfl) ?_
      refine eg rfl rfl ?_
      refine cl (twait_ok a (CK S z) hg.p (hg.tb (by omega)) 2 0) rfl PkL.p trivial ?_
      intro _ _
      change TL _ _ _ _ _ _ _ _ (sepL [_, _])
      rw [q1]
      dsimp only
      have h1 := hg.wait 2 0
      rw [q1] at h1
      dsimp only at h1
      refine qg rfl rfl rfl (neI rfl rfl) ?_
      refine qg rfl rfl rfl (mv (v := .bool _) rfl) ?_
      refine TL.known 53 rfl (c := false) (by decide) ?_
      refine qg rfl rfl rfl (mv (v := .pointer _) rfl) ?_
      refine eg rfl rfl ?_
      refine cl (trun_ok a (F1 S z) h1.p (h1.tb (by omega))) rfl PkL.p trivial ?_
      intro _ _
      change TL _ _ _ _ _ _ _ _ (sepL [_, _])
      rw [q2]
      refine qg rfl rfl rfl (neI rfl rfl) ?_
      first | refine qg rfl rfl rfl (pkT (v := .bool _) rfl rfl) ?_ | refine qg rfl rfl rfl (pkF (v := .bool _) rfl rfl) ?_
      first | refine q rfl rfl (pkT (v := .bool _) rfl rfl) ?_ | refine q rfl rfl (pkF (v := .bool _) rfl rfl) ?_
      refine TL.nil (nt ?_)
      refine TC.condF rfl ?_
      refine TC.skip (nt ?_)
      refine TC.seq ?_
      refine TC.seq ?_
      refine TC.region ?_
      refine q rfl rfl (mv (v := .pointer _) rfl) ?_
      refine q rfl rfl (mv (v := .int _ _) rfl) ?_
      refine q rfl rfl (mv (v := .int _ _) rfl) ?_
      first | refine q rfl rfl (conv .u8 .i64 rfl rfl rfl (wi64 (by omega) (by omega))) ?_ | refine q rfl rfl (conv .u8 .i64 rfl rfl rfl rfl) ?_
      refine e rfl ?_
      refine cl (tsend_ok a (F1 S z) h1.p (h1.tb (by omega)) 1 2 (i : Int) true tk) rfl PkL.p trivial ?_
      intro _ _
      change TL _ _ _ _ _ _ _ _ (sepL [_, _])
      rw [q3]
      dsimp only
      have h2 := h1.send 1 2 (i : Int) true tk
      rw [q3] at h2
      dsimp only at h2
      refine q rfl rfl (neI rfl rfl) ?_
      refine q rfl rfl (mv (v := .bool _) rfl) ?_
      refine TL.known 65 rfl (c := false) (by decide) ?_
      refine qg rfl rfl rfl (mv (v := .bool _) rfl) ?_
      first | refine qg rfl rfl rfl (notD rfl) ?_ | refine qg rfl rfl rfl (notB rfl) ?_
      refine qg rfl rfl rfl (mv (v := .bool _) rfl) ?_
      refine TL.known 68 rfl (c := false) rfl ?_
      refine qs rfl rfl ?_
      refine qs rfl rfl ?_
      refine qs rfl rfl ?_
      first | refine qg rfl rfl rfl (pkT (v := .bool _) rfl rfl) ?_ | refine qg rfl rfl rfl (pkF (v := .bool _) rfl rfl) ?_
      first | refine q rfl rfl (pkT (v := .bool _) rfl rfl) ?_ | refine q rfl rfl (pkF (v := .bool _) rfl rfl) ?_
      refine q rfl rfl (mv (v := .bool _) rfl) ?_
      refine TL.known 74 rfl (c := false) rfl ?_
      refine qg rfl rfl rfl (mv (v := .bool _) rfl) ?_
      refine qg rfl rfl rfl (mv (v := .bool _) rfl) ?_
      refine TL.known 76 rfl (c := true) rfl ?_
      refine qg rfl rfl rfl (mv (v := .pointer _) rfl) ?_
      refine eg rfl rfl ?_
      refine cl (trun_ok a (F2 S z (i : Int) A z2) h2.p (h2.tb (by omega))) rfl PkL.p trivial ?_
      intro _ _
      change TL _ _ _ _ _ _ _ _ (sepL [_, _])
      rw [q4]
      refine qg rfl rfl rfl (neI rfl rfl) ?_
      first | refine qg rfl rfl rfl (pkT (v := .bool _) rfl rfl) ?_ | refine qg rfl rfl rfl (pkF (v := .bool _) rfl rfl) ?_
      first | refine q rfl rfl (pkT (v := .bool _) rfl rfl) ?_ | refine q rfl rfl (pkF (v := .bool _) rfl rfl) ?_
      refine TL.nil (nt ?_)
      refine TC.condF rfl ?_
      refine TC.skip (nt ?_)
      refine TC.seq ?_
      refine TC.region ?_
      refine q rfl rfl (mv (v := .pointer _) rfl) ?_
      refine e rfl ?_
      refine cl (ttake_ok a (F2 S z (i : Int) A z2) h2.p (h2.tb (by omega)) 2 (h2.tl (by omega))) rfl PkL.p trivial ?_
      intro _ _
      change TL _ _ _ _ _ _ _ _ (sepL [_, _])
      rw [q5]
      dsimp only
      have h3 := h2.take 2
      rw [q5] at h3
      dsimp only at h3
      refine q rfl rfl (mv (v := .tuple _) rfl) ?_
      refine q rfl rfl (pu (v := .agg #[_, _, _]) (fun _ => rfl)) ?_
      refine q rfl rfl (pu (v := .int _ _) (fun _ => rfl)) ?_
      refine e rfl ?_
      refine al (l := [.int _ _, .int _ _, .bool _]) rfl rfl ?_
      intro b2
      refine e0 ?_
      refine st (v := .agg #[_, _, _]) (vs := [_, _, _]) 3 rfl rfl rfl rfl rfl rfl (Nat.le_of_ble_eq_true rfl) rfl ?_
      refine q rfl rfl (asg (v := .int _ _) rfl) ?_
      refine TL.nil (nt ?_)
      refine TC.seq ?_
      refine TC.seq ?_
      refine TC.region ?_
      refine q rfl rfl (mv (v := .int _ _) rfl) ?_
      refine q rfl rfl (neI rfl rfl) ?_
      refine q rfl rfl (mv (v := .bool _) rfl) ?_
      refine TL.known 89 rfl (c := false) (by decide) ?_
      first | refine qg rfl rfl rfl (ldN (vs := [_, _, _]) 3 rfl rfl rfl rfl) ?_ | refine qg rfl rfl rfl (ldSN (vs := [_, _, _]) 3 rfl rfl rfl rfl (by decide)) ?_
      refine qg rfl rfl rfl (mv (v := .int _ _) rfl) ?_
      first | refine qg rfl rfl rfl (bld (cs := [.int _ _, .int _ _, .bool _]) rfl) ?_ | refine qg rfl rfl rfl (bld (cs := [_, _, _]) rfl) ?_
      refine qg rfl rfl rfl (neO (by kernel_rfl) rfl rfl) ?_
      first | refine q rfl rfl (pkT (v := .bool _) rfl rfl) ?_ | refine q rfl rfl (pkF (v := .bool _) rfl rfl) ?_
      refine q rfl rfl (mv (v := .bool _) rfl) ?_
      refine TL.known 95 rfl (c := false) (decide_eq_false (fun h => h ⟨rfl, rfl, rfl⟩)) ?_
      refine qg rfl rfl rfl (mv (v := .pointer _) rfl) ?_
      refine eg rfl rfl ?_
      refine cl (tstate_ok a (F3 S z (i : Int) A z2) 1) rfl PkL.p trivial ?_
      intro _ _
      change TL _ _ _ _ _ _ _ _ (sepL [_, _, _])
      rw [q6]
      refine qg rfl rfl rfl (neI rfl rfl) ?_
      first | refine q rfl rfl (pkT (v := .bool _) rfl rfl) ?_ | refine q rfl rfl (pkF (v := .bool _) rfl rfl) ?_
      refine q rfl rfl (mv (v := .bool _) rfl) ?_
      refine TL.known 100 rfl (c := false) (by decide) ?_
      refine qg rfl rfl rfl (mv (v := .pointer _) rfl) ?_
      refine eg rfl rfl ?_
      refine cl (trun_ok a (F3 S z (i : Int) A z2) h3.p (h3.tb (by omega))) rfl PkL.p trivial ?_
      intro _ _
      change TL _ _ _ _ _ _ _ _ (sepL [_, _, _])
      rw [q7]
      refine qg rfl rfl rfl (neI rfl rfl) ?_
      first | refine q rfl rfl (pkT (v := .bool _) rfl rfl) ?_ | refine q rfl rfl (pkF (v := .bool _) rfl rfl) ?_
      refine q rfl rfl (mv (v := .bool _) rfl) ?_
      refine TL.known 105 rfl (c := false) (by decide) ?_
      refine qg rfl rfl rfl (mv (v := .pointer _) rfl) ?_
      refine eg rfl rfl ?_
      refine cl (tcaller_ok a (F3 S z (i : Int) A z2) h3.p (h3.tb (by omega)) 2) rfl PkL.p trivial ?_
      intro _ _
      change TL _ _ _ _ _ _ _ _ (sepL [_, _, _])
      rw [q8]
      refine qg rfl rfl rfl (neI rfl rfl) ?_
      first | refine q rfl rfl (pkT (v := .bool _) rfl rfl) ?_ | refine q rfl rfl (pkF (v := .bool _) rfl rfl) ?_
      refine TL.nil (nt ?_)
      refine TC.condF rfl ?_
      refine TC.skip (nt ?_)
      refine TC.seq ?_
      refine TC.region ?_
      refine q rfl rfl (mv (v := .pointer _) rfl) ?_
      refine e rfl ?_
      refine cl (tanswer_ok a (F3 S z (i : Int) A z2) h3.p (h3.tb (by omega)) 2) rfl PkL.p trivial ?_
      intro _ _
      change TL _ _ _ _ _ _ _ _ (sepL [_, _, _])
      rw [q9]
      dsimp only
      have h4 := h3.answer 2
      rw [q9] at h4
      dsimp only at h4
      have h5 := h4.tolds
      rw [q12] at h5
      refine q rfl rfl (mv (v := .tuple _) rfl) ?_
      refine q rfl rfl (pu (v := .int _ _) (fun _ => rfl)) ?_
      refine q rfl rfl (pu (v := .int _ _) (fun _ => rfl)) ?_
      refine q rfl rfl (asg (v := .int _ _) rfl) ?_
      refine q rfl rfl (asg (v := .int _ _) rfl) ?_
      refine TL.nil (nt ?_)
      refine TC.seq ?_
      refine TC.region ?_
      first | refine q rfl rfl (bld (cs := [.int _ _, .int _ _]) rfl) ?_ | refine q rfl rfl (bld (cs := [_, _]) rfl) ?_
      first | refine q rfl rfl (bld (cs := [.int _ _, .int _ _]) rfl) ?_ | refine q rfl rfl (bld (cs := [_, _]) rfl) ?_
      refine e rfl ?_
      refine bs (cs := [.int _ _, .int _ _, .int _ _, .int _ _]) rfl ?_
      intro b3
      refine q rfl rfl (asg (v := .slice _ _ _) rfl) ?_
      refine TL.nil (nt ?_)
      refine TC.seq ?_
      refine TC.seq ?_
      refine TC.region ?_
      refine q rfl rfl (mv (v := .bool _) rfl) ?_
      first | refine q rfl rfl (notD rfl) ?_ | refine q rfl rfl (notB rfl) ?_
      refine TL.nil (nt ?_)
      refine TC.condF rfl ?_
      refine TC.skip (nt ?_)
      refine TC.seq ?_
      refine TC.region ?_
      refine q rfl rfl (mv (v := .int _ _) rfl) ?_
      refine q rfl rfl (neI rfl rfl) ?_
      refine q rfl rfl (mv (v := .bool _) rfl) ?_
      refine TL.known 124 rfl (c := false) (by decide) ?_
      refine qg rfl rfl rfl (mv (v := .int _ _) rfl) ?_
      refine qg rfl rfl rfl (neI rfl rfl) ?_
      first | refine q rfl rfl (pkT (v := .bool _) rfl rfl) ?_ | refine q rfl rfl (pkF (v := .bool _) rfl rfl) ?_
      refine q rfl rfl (mv (v := .bool _) rfl) ?_
      refine TL.known 128 rfl (c := false) (by decide) ?_
      refine qg rfl rfl rfl (mv (v := .pointer _) rfl) ?_
      refine eg rfl rfl ?_
      refine cl (tstate_ok a (F4 S z (i : Int) A z2) 1) rfl PkL.p trivial ?_
      intro _ _
      change TL _ _ _ _ _ _ _ _ (sepL [_, _, _, _])
      rw [q11]
      refine qg rfl rfl rfl (neI rfl rfl) ?_
      first | refine q rfl rfl (pkT (v := .bool _) rfl rfl) ?_ | refine q rfl rfl (pkF (v := .bool _) rfl rfl) ?_
      refine q rfl rfl (mv (v := .bool _) rfl) ?_
      refine TL.known 133 rfl (c := false) (by decide) ?_
      refine qg rfl rfl rfl (mv (v := .pointer _) rfl) ?_
      refine eg rfl rfl ?_
      refine cl (ttold_ok a (F4 S z (i : Int) A z2)) rfl PkL.p trivial ?_
      intro yt _
      change TL _ _ _ _ _ _ _ _ (sepL [_, _, _, _, _])
      rw [q10]
      rw [q12]
      refine qg rfl rfl rfl (mv (v := .slice _ _ _) rfl) ?_
      refine eg rfl rfl ?_
      refine cl (tsame_ok yt.1 _ [⟨2, 0⟩, ⟨1, 0⟩] (some ⟨b3, 0, none⟩) _ [⟨2, 0⟩, ⟨1, 0⟩] (by decide)) rfl (picked_nil _) ⟨⟨_, RdSI.rd (ad := yt.1)⟩, ⟨_, RdSI.rd (ad := (some ⟨b3, 0, none⟩))⟩⟩ ?_
      intro _ _
      change TL _ _ _ _ _ _ _ _ (sepL [_, _, _, _, _])
      rw [decide_eq_true (rfl : ([⟨2, 0⟩, ⟨1, 0⟩] : List Tg) = [⟨2, 0⟩, ⟨1, 0⟩])]
      first | refine qg rfl rfl rfl (notD rfl) ?_ | refine qg rfl rfl rfl (notB rfl) ?_
      first | refine q rfl rfl (pkT (v := .bool _) rfl rfl) ?_ | refine q rfl rfl (pkF (v := .bool _) rfl rfl) ?_
      refine q rfl rfl (mv (v := .bool _) rfl) ?_
      refine TL.known 140 rfl (c := false) (by decide) ?_
      refine qg rfl rfl rfl (mv (v := .pointer _) rfl) ?_
      refine eg rfl rfl ?_
      refine cl (tleft_ok a (CK S1_ z2) h5.p (h5.tb (by omega)) 1) rfl PkL.p trivial ?_
      intro _ _
      change TL _ _ _ _ _ _ _ _ (sepL [_, _, _, _, _])
      rw [q13]
      refine qg rfl rfl rfl (neI rfl rfl) ?_
      first | refine q rfl rfl (pkT (v := .bool _) rfl rfl) ?_ | refine q rfl rfl (pkF (v := .bool _) rfl rfl) ?_
      refine TL.nil (nt ?_)
      refine TC.condF rfl ?_
      refine TC.skip (nb (nt ?_))
      refine TC.region ?_
      refine q rfl rfl (mv (v := .int _ _) rfl) ?_
      first | refine q rfl rfl (addI rfl rfl (by omega) (by omega)) ?_ | refine q rfl rfl (add rfl rfl rfl) ?_
      refine q rfl rfl (asg (v := .int _ _) rfl) ?_
      refine TL.nil (nt ?_)
      exact ⟨rfl, ⟨i + 1, S1_, z2⟩, ⟨by dsimp only; omega, .inr (.inl ⟨rfl, rfl⟩), h5.up (by omega)⟩, (by dsimp only; omega), ⟨rfl, rfl, rfl, rfl, rfl, trivial⟩, (by repeat (first | exact ent_nil _ | refine ent_take 0 rfl ?_ | refine ent_take 1 rfl ?_ | refine ent_take 2 rfl ?_ | refine ent_take 3 rfl ?_ | refine ent_take 4 rfl ?_ | refine ent_take 5 rfl ?_ | refine ent_take 6 rfl ?_ | refine ent_take 7 rfl ?_ | refine ent_take 8 rfl ?_ | refine ent_take 9 rfl ?_ | refine ent_take 10 rfl ?_ | refine ent_take 11 rfl ?_ | refine ent_take 12 rfl ?_))⟩
    · subst hf
      obtain ⟨A, z2, q3, q4, q5, q6, q7, q8, q9, q10, q11, q12, q13⟩ := c_not (S := S) (hS.imp id fun h => h.elim (fun h => by cases h.1) (fun h => h.2)) z (i : Int) htk
      refine TC.skip (nt ?_)
      refine TC.seq ?_
      refine TC.block ?_
      refine TC.seq ?_
      refine TC.seq ?_
      refine TC.region ?_
      refine q rfl rfl (mv (v := .bool _) rfl) ?_
      refine q rfl rfl (mv (v := .bool _) rfl) ?_
      refine qs rfl rfl ?_
      refine qs rfl rfl ?_
      refine qs rfl rfl ?_
      refine qs rfl rfl ?_
      refine qsu rfl rfl ?_
      refine qsu rfl rfl ?_
      refine qsu rfl rfl ?_
      refine qs rfl rfl ?_
      first | refine q rfl rfl (pkT (v := .bool _) rfl rfl) ?_ | refine q rfl rfl (pkF (v := .bool _) rfl rfl) ?_
      refine TL.nil (nt ?_)
      refine TC.condF rfl ?_
      refine TC.skip (nt ?_)
      refine TC.seq ?_
      refine TC.seq ?_
      refine TC.region ?_
      refine q rfl rfl (mv (v := .pointer _) rfl) ?_
      refine q rfl rfl (mv (v := .int _ _) rfl) ?_
      refine q rfl rfl (mv (v := .int _ _) rfl) ?_
      first | refine q rfl rfl (conv .u8 .i64 rfl rfl rfl (wi64 (by omega) (by omega))) ?_ | refine q rfl rfl (conv .u8 .i64 rfl rfl rfl rfl) ?_
      refine e rfl ?_
      refine cl (tsend_ok a (CK S z) hg.p (hg.tb (by omega)) 1 2 (i : Int) true tk) rfl PkL.p trivial ?_
      intro _ _
      change TL _ _ _ _ _ _ _ _ (sepL [_, _])
      rw [q3]
      dsimp only
      have h2 := hg.send 1 2 (i : Int) true tk
      rw [q3] at h2
      dsimp only at h2
      refine q rfl rfl (neI rfl rfl) ?_
      refine q rfl rfl (mv (v := .bool _) rfl) ?_
      refine TL.known 65 rfl (c := false) (by decide) ?_
      refine qg rfl rfl rfl (mv (v := .bool _) rfl) ?_
      first | refine qg rfl rfl rfl (notD rfl) ?_ | refine qg rfl rfl rfl (notB rfl) ?_
      refine qg rfl rfl rfl (mv (v := .bool _) rfl) ?_
      refine TL.known 68 rfl (c := true) rfl ?_
      refine qg rfl rfl rfl (mv (v := .pointer _) rfl) ?_
      refine eg rfl rfl ?_
      refine cl (trun_ok a (N2 S z (i : Int) A z2) h2.p (h2.tb (by omega))) rfl PkL.p trivial ?_
      intro _ _
      change TL _ _ _ _ _ _ _ _ (sepL [_, _])
      rw [q4]
      refine qg rfl rfl rfl (neI rfl rfl) ?_
      first | refine qg rfl rfl rfl (pkT (v := .bool _) rfl rfl) ?_ | refine qg rfl rfl rfl (pkF (v := .bool _) rfl rfl) ?_
      first | refine q rfl rfl (pkT (v := .bool _) rfl rfl) ?_ | refine q rfl rfl (pkF (v := .bool _) rfl rfl) ?_
      refine q rfl rfl (mv (v := .bool _) rfl) ?_
      refine TL.known 74 rfl (c := false) (by decide) ?_
      refine qg rfl rfl rfl (mv (v := .bool _) rfl) ?_
      refine qg rfl rfl rfl (mv (v := .bool _) rfl) ?_
      refine TL.known 76 rfl (c := false) rfl ?_
      refine qs rfl rfl ?_
      refine qs rfl rfl ?_
      refine qs rfl rfl ?_
      first | refine qg rfl rfl rfl (pkT (v := .bool _) rfl rfl) ?_ | refine qg rfl rfl rfl (pkF (v := .bool _) rfl rfl) ?_
      first | refine q rfl rfl (pkT (v := .bool _) rfl rfl) ?_ | refine q rfl rfl (pkF (v := .bool _) rfl rfl) ?_
      refine TL.nil (nt ?_)
      refine TC.condF rfl ?_
      refine TC.skip (nt ?_)
      refine TC.seq ?_
      refine TC.region ?_
      refine q rfl rfl (mv (v := .pointer _) rfl) ?_
      refine e rfl ?_
      refine cl (ttake_ok a (N2 S z (i : Int) A z2) h2.p (h2.tb (by omega)) 2 (h2.tl (by omega))) rfl PkL.p trivial ?_
      intro _ _
      change TL _ _ _ _ _ _ _ _ (sepL [_, _])
      rw [q5]
      dsimp only
      have h3 := h2.take 2
      rw [q5] at h3
      dsimp only at h3
      refine q rfl rfl (mv (v := .tuple _) rfl) ?_
      refine q rfl rfl (pu (v := .agg #[_, _, _]) (fun _ => rfl)) ?_
      refine q rfl rfl (pu (v := .int _ _) (fun _ => rfl)) ?_
      refine e rfl ?_
      refine al (l := [.int _ _, .int _ _, .bool _]) rfl rfl ?_
      intro b4
      refine e0 ?_
      refine st (v := .agg #[_, _, _]) (vs := [_, _, _]) 3 rfl rfl rfl rfl rfl rfl (Nat.le_of_ble_eq_true rfl) rfl ?_
      refine q rfl rfl (asg (v := .int _ _) rfl) ?_
      refine TL.nil (nt ?_)
      refine TC.seq ?_
      refine TC.seq ?_
      refine TC.region ?_
      refine q rfl rfl (mv (v := .int _ _) rfl) ?_
      refine q rfl rfl (neI rfl rfl) ?_
      refine q rfl rfl (mv (v := .bool _) rfl) ?_
      refine TL.known 89 rfl (c := false) (by decide) ?_
      first | refine qg rfl rfl rfl (ldN (vs := [_, _, _]) 3 rfl rfl rfl rfl) ?_ | refine qg rfl rfl rfl (ldSN (vs := [_, _, _]) 3 rfl rfl rfl rfl (by decide)) ?_
      refine qg rfl rfl rfl (mv (v := .int _ _) rfl) ?_
      first | refine qg rfl rfl rfl (bld (cs := [.int _ _, .int _ _, .bool _]) rfl) ?_ | refine qg rfl rfl rfl (bld (cs := [_, _, _]) rfl) ?_
      refine qg rfl rfl rfl (neO (by kernel_rfl) rfl rfl) ?_
      first | refine q rfl rfl (pkT (v := .bool _) rfl rfl) ?_ | refine q rfl rfl (pkF (v := .bool _) rfl rfl) ?_
      refine q rfl rfl (mv (v := .bool _) rfl) ?_
      refine TL.known 95 rfl (c := false) (decide_eq_false (fun h => h ⟨rfl, rfl, rfl⟩)) ?_
      refine qg rfl rfl rfl (mv (v := .pointer _) rfl) ?_
      refine eg rfl rfl ?_
      refine cl (tstate_ok a (N3 S z (i : Int) A z2) 1) rfl PkL.p trivial ?_
      intro _ _
      change TL _ _ _ _ _ _ _ _ (sepL [_, _, _])
      rw [q6]
      refine qg rfl rfl rfl (neI rfl rfl) ?_
      first | refine q rfl rfl (pkT (v := .bool _) rfl rfl) ?_ | refine q rfl rfl (pkF (v := .bool _) rfl rfl) ?_
      refine q rfl rfl (mv (v := .bool _) rfl) ?_
      refine TL.known 100 rfl (c := false) (by decide) ?_
      refine qg rfl rfl rfl (mv (v := .pointer _) rfl) ?_
      refine eg rfl rfl ?_
      refine cl (trun_ok a (N3 S z (i : Int) A z2) h3.p (h3.tb (by omega))) rfl PkL.p trivial ?_
      intro _ _
      change TL _ _ _ _ _ _ _ _ (sepL [_, _, _])
      rw [q7]
      refine qg rfl rfl rfl (neI rfl rfl) ?_
      first | refine q rfl rfl (pkT (v := .bool _) rfl rfl) ?_ | refine q rfl rfl (pkF (v := .bool _) rfl rfl) ?_
      refine q rfl rfl (mv (v := .bool _) rfl) ?_
      refine TL.known 105 rfl (c := false) (by decide) ?_
      refine qg rfl rfl rfl (mv (v := .pointer _) rfl) ?_
      refine eg rfl rfl ?_
      refine cl (tcaller_ok a (N3 S z (i : Int) A z2) h3.p (h3.tb (by omega)) 2) rfl PkL.p trivial ?_
      intro _ _
      change TL _ _ _ _ _ _ _ _ (sepL [_, _, _])
      rw [q8]
      refine qg rfl rfl rfl (neI rfl rfl) ?_
      first | refine q rfl rfl (pkT (v := .bool _) rfl rfl) ?_ | refine q rfl rfl (pkF (v := .bool _) rfl rfl) ?_
      refine TL.nil (nt ?_)
      refine TC.condF rfl ?_
      refine TC.skip (nt ?_)
      refine TC.seq ?_
      refine TC.region ?_
      refine q rfl rfl (mv (v := .pointer _) rfl) ?_
      refine e rfl ?_
      refine cl (tanswer_ok a (N3 S z (i : Int) A z2) h3.p (h3.tb (by omega)) 2) rfl PkL.p trivial ?_
      intro _ _
      change TL _ _ _ _ _ _ _ _ (sepL [_, _, _])
      rw [q9]
      dsimp only
      have h4 := h3.answer 2
      rw [q9] at h4
      dsimp only at h4
      have h5 := h4.tolds
      rw [q12] at h5
      refine q rfl rfl (mv (v := .tuple _) rfl) ?_
      refine q rfl rfl (pu (v := .int _ _) (fun _ => rfl)) ?_
      refine q rfl rfl (pu (v := .int _ _) (fun _ => rfl)) ?_
      refine q rfl rfl (asg (v := .int _ _) rfl) ?_
      refine q rfl rfl (asg (v := .int _ _) rfl) ?_
      refine TL.nil (nt ?_)
      refine TC.seq ?_
      refine TC.region ?_
      first | refine q rfl rfl (bld (cs := [.int _ _, .int _ _]) rfl) ?_ | refine q rfl rfl (bld (cs := [_, _]) rfl) ?_
      first | refine q rfl rfl (bld (cs := [.int _ _, .int _ _]) rfl) ?_ | refine q rfl rfl (bld (cs := [_, _]) rfl) ?_
      refine e rfl ?_
      refine bs (cs := [.int _ _, .int _ _, .int _ _, .int _ _]) rfl ?_
      intro b5
      refine q rfl rfl (asg (v := .slice _ _ _) rfl) ?_
      refine TL.nil (nt ?_)
      refine TC.seq ?_
      refine TC.seq ?_
      refine TC.region ?_
      refine q rfl rfl (mv (v := .bool _) rfl) ?_
      first | refine q rfl rfl (notD rfl) ?_ | refine q rfl rfl (notB rfl) ?_
      refine TL.nil (nt ?_)
      refine TC.condT rfl ?_
      refine TC.region ?_
      refine q rfl rfl (mv (v := .slice _ _ _) rfl) ?_
      refine q rfl rfl (slFn 39 2 (1) rfl rfl rfl (by omega) (by omega)) ?_
      refine q rfl rfl (asg (v := .slice _ _ _) rfl) ?_
      refine TL.nil (nt ?_)
      refine TC.seq ?_
      refine TC.region ?_
      refine q rfl rfl (mv (v := .int _ _) rfl) ?_
      refine q rfl rfl (neI rfl rfl) ?_
      refine q rfl rfl (mv (v := .bool _) rfl) ?_
      haveI : OffI ([.int .i64 2, .int .i64 0] ++ [.int .i64 1, .int .i64 0]) 2 1 2 := ⟨2, rfl, by decide, by decide⟩
      haveI : OffI [.int .i64 2, .int .i64 0, .int .i64 1, .int .i64 0] 2 1 2 := ⟨2, rfl, by decide, by decide⟩
      refine TL.known 124 rfl (c := false) (by decide) ?_
      refine qg rfl rfl rfl (mv (v := .int _ _) rfl) ?_
      refine qg rfl rfl rfl (neI rfl rfl) ?_
      first | refine q rfl rfl (pkT (v := .bool _) rfl rfl) ?_ | refine q rfl rfl (pkF (v := .bool _) rfl rfl) ?_
      refine q rfl rfl (mv (v := .bool _) rfl) ?_
      refine TL.known 128 rfl (c := false) (by decide) ?_
      refine qg rfl rfl rfl (mv (v := .pointer _) rfl) ?_
      refine eg rfl rfl ?_
      refine cl (tstate_ok a (N4 S z (i : Int) A z2) 1) rfl PkL.p trivial ?_
      intro _ _
      change TL _ _ _ _ _ _ _ _ (sepL [_, _, _, _])
      rw [q11]
      refine qg rfl rfl rfl (neI rfl rfl) ?_
      first | refine q rfl rfl (pkT (v := .bool _) rfl rfl) ?_ | refine q rfl rfl (pkF (v := .bool _) rfl rfl) ?_
      refine q rfl rfl (mv (v := .bool _) rfl) ?_
      refine TL.known 133 rfl (c := false) (by decide) ?_
      refine qg rfl rfl rfl (mv (v := .pointer _) rfl) ?_
      refine eg rfl rfl ?_
      refine cl (ttold_ok a (N4 S z (i : Int) A z2)) rfl PkL.p trivial ?_
      intro yt _
      change TL _ _ _ _ _ _ _ _ (sepL [_, _, _, _, _])
      rw [q10]
      rw [q12]
      refine qg rfl rfl rfl (mv (v := .slice _ _ _) rfl) ?_
      refine eg rfl rfl ?_
      refine cl (tsame_ok yt.1 _ [⟨1, 0⟩] (sliceOff (some ⟨b5, 0, none⟩) 2 1 2) _ [⟨1, 0⟩] (by decide)) rfl (picked_nil _) ⟨⟨_, RdSI.rd (ad := yt.1)⟩, ⟨_, RdSI.rd (ad := (sliceOff (some ⟨b5, 0, none⟩) 2 1 2))⟩⟩ ?_
      intro _ _
      change TL _ _ _ _ _ _ _ _ (sepL [_, _, _, _, _])
      rw [decide_eq_true (rfl : ([⟨1, 0⟩] : List Tg) = [⟨1, 0⟩])]
      first | refine qg rfl rfl rfl (notD rfl) ?_ | refine qg rfl rfl rfl (notB rfl) ?_
      first | refine q rfl rfl (pkT (v := .bool _) rfl rfl) ?_ | refine q rfl rfl (pkF (v := .bool _) rfl rfl) ?_
      refine q rfl rfl (mv (v := .bool _) rfl) ?_
      refine TL.known 140 rfl (c := false) (by decide) ?_
      refine qg rfl rfl rfl (mv (v := .pointer _) rfl) ?_
      refine eg rfl rfl ?_
      refine cl (tleft_ok a (CK S2_ z2) h5.p (h5.tb (by omega)) 1) rfl PkL.p trivial ?_
      intro _ _
      change TL _ _ _ _ _ _ _ _ (sepL [_, _, _, _, _])
      rw [q13]
      refine qg rfl rfl rfl (neI rfl rfl) ?_
      first | refine q rfl rfl (pkT (v := .bool _) rfl rfl) ?_ | refine q rfl rfl (pkF (v := .bool _) rfl rfl) ?_
      refine TL.nil (nt ?_)
      refine TC.condF rfl ?_
      refine TC.skip (nb (nt ?_))
      refine TC.region ?_
      refine q rfl rfl (mv (v := .int _ _) rfl) ?_
      first | refine q rfl rfl (addI rfl rfl (by omega) (by omega)) ?_ | refine q rfl rfl (add rfl rfl rfl) ?_
      refine q rfl rfl (asg (v := .int _ _) rfl) ?_
      refine TL.nil (nt ?_)
      exact ⟨rfl, ⟨i + 1, S2_, z2⟩, ⟨by dsimp only; omega, .inr (.inr ⟨rfl, rfl⟩), h5.up (by omega)⟩, (by dsimp only; omega), ⟨rfl, rfl, rfl, rfl, rfl, trivial⟩, (by repeat (first | exact ent_nil _ | refine ent_take 0 rfl ?_ | refine ent_take 1 rfl ?_ | refine ent_take 2 rfl ?_ | refine ent_take 3 rfl ?_ | refine ent_take 4 rfl ?_ | refine ent_take 5 rfl ?_ | refine ent_take 6 rfl ?_ | refine ent_take 7 rfl ?_ | refine ent_take 8 rfl ?_ | refine ent_take 9 rfl ?_ | refine ent_take 10 rfl ?_ | refine ent_take 11 rfl ?_ | refine ent_take 12 rfl ?_))⟩
  · obtain ⟨q1, q2, q3, q4, q5, q6⟩ := c_end (S := S) (hS.imp id fun h => h.imp (fun h => h.2) (fun h => h.2)) z
    refine TC.exit (et (et (eb (nt ?_))))
    refine TC.seq ?_
    refine TC.seq ?_
    refine TC.region ?_
    refine q rfl rfl (mv (v := .pointer _) rfl) ?_
    refine e rfl ?_
    refine cl (tsend_ok a (CK S z) hg.p (hg.tb (by omega)) 1 2 0 true 0) rfl PkL.p trivial ?_
    intro _ _
    change TL _ _ _ _ _ _ _ _ (sepL [_, _])
    rw [q1]
    dsimp only
    have h1 := hg.send 1 2 0 true 0
    rw [q1] at h1
    dsimp only at h1
    refine q rfl rfl (neI rfl rfl) ?_
    refine q rfl rfl (mv (v := .bool _) rfl) ?_
    refine TL.known 148 rfl (c := false) (by decide) ?_
    refine qg rfl rfl rfl (mv (v := .pointer _) rfl) ?_
    refine eg rfl rfl ?_
    refine cl (tsend_ok a (E1 S z) h1.p (h1.tb (by omega)) 3 2 0 true 0) rfl PkL.p trivial ?_
    intro _ _
    change TL _ _ _ _ _ _ _ _ (sepL [_, _])
    rw [q2]
    dsimp only
    have h2 := h1.send 3 2 0 true 0
    rw [q2] at h2
    dsimp only at h2
    refine qg rfl rfl rfl (neI rfl rfl) ?_
    first | refine q rfl rfl (pkT (v := .bool _) rfl rfl) ?_ | refine q rfl rfl (pkF (v := .bool _) rfl rfl) ?_
    refine TL.nil (nt ?_)
    refine TC.condF rfl ?_
    refine TC.skip (nt ?_)
    refine TC.seq ?_
    refine TC.region ?_
    refine q rfl rfl (mv (v := .pointer _) rfl) ?_
    refine e rfl ?_
    refine cl (ttake_ok a (E2 S z) h2.p (h2.tb (by omega)) 2 (h2.tl (by omega))) rfl PkL.p trivial ?_
    intro _ _
    change TL _ _ _ _ _ _ _ _ (sepL [_, _])
    rw [q3]
    dsimp only
    have h3 := h2.take 2
    rw [q3] at h3
    dsimp only at h3
    refine q rfl rfl (mv (v := .tuple _) rfl) ?_
    refine q rfl rfl (pu (v := .agg #[_, _, _]) (fun _ => rfl)) ?_
    refine q rfl rfl (pu (v := .int _ _) (fun _ => rfl)) ?_
    refine e rfl ?_
    refine al (l := [.int _ _, .int _ _, .bool _]) rfl rfl ?_
    intro b6
    refine e0 ?_
    refine st (v := .agg #[_, _, _]) (vs := [_, _, _]) 3 rfl rfl rfl rfl rfl rfl (Nat.le_of_ble_eq_true rfl) rfl ?_
    refine q rfl rfl (asg (v := .int _ _) rfl) ?_
    refine TL.nil (nt ?_)
    refine TC.seq ?_
    refine TC.region ?_
    refine q rfl rfl (mv (v := .pointer _) rfl) ?_
    refine e rfl ?_
    refine cl (ttake_ok a (E3 S z) h3.p (h3.tb (by omega)) 2 (h3.tl (by omega))) rfl PkL.p trivial ?_
    intro _ _
    change TL _ _ _ _ _ _ _ _ (sepL [_, _, _])
    rw [q4]
    dsimp only
    have h4 := h3.take 2
    rw [q4] at h4
    dsimp only at h4
    refine q rfl rfl (mv (v := .tuple _) rfl) ?_
    refine q rfl rfl (pu (v := .agg #[_, _, _]) (fun _ => rfl)) ?_
    refine q rfl rfl (pu (v := .int _ _) (fun _ => rfl)) ?_
    refine e rfl ?_
    refine al (l := [.int _ _, .int _ _, .bool _]) rfl rfl ?_
    intro b7
    refine e0 ?_
    refine st (v := .agg #[_, _, _]) (vs := [_, _, _]) 3 rfl rfl rfl rfl rfl rfl (Nat.le_of_ble_eq_true rfl) rfl ?_
    refine q rfl rfl (asg (v := .int _ _) rfl) ?_
    refine TL.nil (nt ?_)
    refine TC.seq ?_
    refine TC.region ?_
    refine q rfl rfl (mv (v := .int _ _) rfl) ?_
    refine q rfl rfl (eqI rfl rfl) ?_
    refine q rfl rfl (mv (v := .bool _) rfl) ?_
    refine TL.known 165 rfl (c := true) (by decide) ?_
    refine qg rfl rfl rfl (mv (v := .int _ _) rfl) ?_
    refine qg rfl rfl rfl (eqI rfl rfl) ?_
    first | refine q rfl rfl (pkT (v := .bool _) rfl rfl) ?_ | refine q rfl rfl (pkF (v := .bool _) rfl rfl) ?_
    refine q rfl rfl (mv (v := .bool _) rfl) ?_
    refine TL.known 169 rfl (c := true) (by decide) ?_
    refine qg rfl rfl rfl (mv (v := .pointer _) rfl) ?_
    refine eg rfl rfl ?_
    refine cl (tcaller_ok a (E4 S z) h4.p (h4.tb (by omega)) 2) rfl PkL.p trivial ?_
    intro _ _
    change TL _ _ _ _ _ _ _ _ (sepL [_, _, _, _])
    rw [q5]
    refine qg rfl rfl rfl (eqI rfl rfl) ?_
    first | refine q rfl rfl (pkT (v := .bool _) rfl rfl) ?_ | refine q rfl rfl (pkF (v := .bool _) rfl rfl) ?_
    refine q rfl rfl (mv (v := .bool _) rfl) ?_
    refine TL.known 174 rfl (c := true) (by decide) ?_
    refine qg rfl rfl rfl (mv (v := .pointer _) rfl) ?_
    refine eg rfl rfl ?_
    refine cl (ttold_ok a (E4 S z)) rfl PkL.p trivial ?_
    intro yt _
    change TL _ _ _ _ _ _ _ _ (sepL [_, _, _, _, _])
    rw [q6]
    first | refine qg rfl rfl rfl (bld (cs := [.int _ _, .int _ _]) rfl) ?_ | refine qg rfl rfl rfl (bld (cs := [_, _]) rfl) ?_
    refine eg rfl rfl ?_
    refine bs (cs := [.int _ _, .int _ _]) rfl ?_
    intro b8
    refine eg rfl rfl ?_
    refine cl (tsame_ok yt.1 _ [⟨1, 13⟩] (some ⟨b8, 0, none⟩) _ [⟨1, 13⟩] (by decide)) rfl (picked_nil _) ⟨⟨_, RdSI.rd (ad := yt.1)⟩, ⟨_, RdSI.rd (ad := some ⟨b8, 0, none⟩)⟩⟩ ?_
    intro _ _
    change TL _ _ _ _ _ _ _ _ (sepL [_, _, _, _, _, _])
    rw [decide_eq_true (rfl : ([⟨1, 13⟩] : List Tg) = [⟨1, 13⟩])]
    first | refine q rfl rfl (pkT (v := .bool _) rfl rfl) ?_ | refine q rfl rfl (pkF (v := .bool _) rfl rfl) ?_
    refine q rfl rfl (asg (v := .bool _) rfl) ?_
    refine TL.nil (nt ?_)
    refine TC.ret ?_
    exact Ret.i () [_] ⟨rfl, trivial⟩ rfl trivial (by repeat (first | exact ent_nil _ | refine ent_take 0 rfl ?_ | refine ent_take 1 rfl ?_ | refine ent_take 2 rfl ?_ | refine ent_take 3 rfl ?_ | refine ent_take 4 rfl ?_ | refine ent_take 5 rfl ?_ | refine ent_take 6 rfl ?_ | refine ent_take 7 rfl ?_ | refine ent_take 8 rfl ?_ | refine ent_take 9 rfl ?_ | refine ent_take 10 rfl ?_ | refine ent_take 11 rfl ?_ | refine ent_take 12 rfl ?_))

end Go.Proofs.Ytdfmfhcjnjfjbaa
