/-
  Proved here: what functions of this program compute, each as a contract over symbolic states, under the premises that each theorem names (most lines printed by a program of the prover).
-/
import Derived.Test.YtdfmfhcjnjfjbaaRdB
namespace Go.Proofs.Ytdfmfhcjnjfjbaa.Rd
open Go Go.QM
def rowR (S : List Th) (p : Int) : List Int := if 0 ≤ p ∧ p ≤ 7 then rowA S p.toNat else []
theorem row_del {S : List Th} {p : Nat} {x : Int} : (rowA S p).filter (notP fun y => decide (y = x)) = rowA (offS S x) p := by
  rw [rowA_off]
  exact List.filter_congr fun y _ => by simp [notP]
theorem perm_off {S L : List Th} {t : Th} (h : NdS S) (hL : S.Perm (t :: L)) (u : Th) : (u :: L).Perm (offS S t.id ++ [u]) :=
  ((off_perm h hL).symm.cons u).trans (List.perm_append_singleton _ _).symm
theorem setL_yes {S : List Th} {t : Th} (hn : NdS S) (ht : t ∈ S) (v : Int) : leftS (setL S t.id v) t.id = v := by
  have hm : (⟨t.id, t.prio, t.whole, v⟩ : Th) ∈ setL S t.id v := List.mem_map.2 ⟨t, ht, if_pos rfl⟩
  have hn2 : NdS (setL S t.id v) := by rw [NdS, setL_ids]; exact hn
  have := findS_yes hn2 hm
  rw [leftS]; dsimp only at this; rw [this]

theorem rnew_ent (qp mb : Nat) (F : HP) : ent (sepL [pts qp 89 (rowsC (fun _ => .slice none 0 0) [.map (some mb)]), mapF encI mb (fun _ => none) 0, F]) (sepL [isQ qp [], F]) := by
  have hf : fS (fun _ => 0) [] = fun _ => none := funext fun _ => if_neg (by simp [hasS])
  have h8 : List.range 8 = [0, 1, 2, 3, 4, 5, 6, 7] := by rfl
  refine (bigS_nil (f := thP (fun _ => 0)) _).trans ?_
  refine (((slc_nil 3 1 _).trans ((slc_nil 3 1 _).trans ((slc_nil 3 1 _).trans ((slc_nil 3 1 _).trans ((slc_nil 3 1 _).trans ((slc_nil 3 1 _).trans ((slc_nil 3 1 _).trans (slc_nil 3 1 _)))))))) : ent _ (sepL [slc 3 1 none 0 0 [], slc 3 1 none 0 0 [], slc 3 1 none 0 0 [], slc 3 1 none 0 0 [], slc 3 1 none 0 0 [], slc 3 1 none 0 0 [], slc 3 1 none 0 0 [], slc 3 1 none 0 0 [], _, _, _, _])).trans ?_
  refine ent_close (⟨fun _ => none, fun _ => 0, mb, fun _ => 0⟩ : RRep) RInv.nil ?_
  refine ent_take 9 rfl ?_
  refine (show ent (sepL [slc 3 1 none 0 0 [], slc 3 1 none 0 0 [], slc 3 1 none 0 0 [], slc 3 1 none 0 0 [], slc 3 1 none 0 0 [], slc 3 1 none 0 0 [], slc 3 1 none 0 0 [], slc 3 1 none 0 0 [], bigS (thP fun _ => 0) [], mapF encI mb (fun _ => none) 0, F]) (sepL [bigS (rowP (fun _ => none) (fun _ => 0) []) (List.range 8), mapF encI mb (fS (fun _ => 0) []) 0, bigS (thP fun _ => 0) [], F]) from ?_)
  rw [hf, bigS, h8]
  refine (sepL_append' [slc 3 1 none 0 0 [], slc 3 1 none 0 0 [], slc 3 1 none 0 0 [], slc 3 1 none 0 0 [], slc 3 1 none 0 0 [], slc 3 1 none 0 0 [], slc 3 1 none 0 0 [], slc 3 1 none 0 0 []] _).trans (sep_mono (ent.refl _) ?_)
  exact ent_take 1 rfl (ent_take 0 rfl (ent_take 0 rfl (ent_nil _)))

set_option maxRecDepth 4000 in
theorem rnew_ok  : FSpec Try.prog 33 [] noRd [] (fun qp : Nat => .pointer (some ⟨qp, 0, none⟩)) (fun _ => True) (fun qp => [isQ qp []]) := by
  refine FSpec.intro (rs := [.tmp 0]) (by kernel_rfl) Try.func33 rfl Try.ntmps33 (by rfl) rfl ?_
  intro F _
  change TC _ _ _ _ _ _ _ (sepL [_])
  refine TC.seq ?_
  refine TC.region ?_
  refine q rfl rfl (asg (v := .pointer _) rfl) ?_
  refine TL.nil (nt ?_)
  refine TC.seq ?_
  refine TC.region ?_
  refine e rfl ?_
  refine mkF encI ?_
  intro b1
  first | refine q rfl rfl (bld (cs := [.slice _ _ _, .slice _ _ _, .slice _ _ _, .slice _ _ _, .slice _ _ _, .slice _ _ _, .slice _ _ _, .slice _ _ _, .map _]) rfl) ?_ | refine q rfl rfl (bld (cs := [_, _, _, _, _, _, _, _, _]) rfl) ?_
  refine e rfl ?_
  refine bx (v := .agg _) (l := [.slice _ _ _, .slice _ _ _, .slice _ _ _, .slice _ _ _, .slice _ _ _, .slice _ _ _, .slice _ _ _, .slice _ _ _, .map _]) rfl rfl ?_
  intro b2
  refine q rfl rfl (asg (v := .pointer _) rfl) ?_
  refine TL.nil (nt ?_)
  refine TC.ret ?_
  have h8 : List.range 8 = [0, 1, 2, 3, 4, 5, 6, 7] := by rfl
  exact Ret.i b2 [_] ⟨rfl, trivial⟩ rfl trivial (rnew_ent b2 b1 F)

set_option maxRecDepth 4000 in
theorem qat_ok (qp : Nat) (r : Nat → Value) (mb n : Nat) (f : Int → Option Value) (id : Int) : FSpec Try.prog 63 [.pointer (some ⟨qp, 0, none⟩), .int .i64 id] noRd [pts qp 89 (rowsC r [.map (some mb)]), mapF encI mb f n] (fun _ : Unit => (f id).getD (.pointer none)) (fun _ => True) (fun _ => [pts qp 89 (rowsC r [.map (some mb)]), mapF encI mb f n]) := by
  refine FSpec.intro (rs := [.tmp 4]) (by kernel_rfl) Try.func63 rfl Try.ntmps63 (by rfl) rfl ?_
  intro F _
  change TC _ _ _ _ _ _ _ (sepL [_, _, _])
  refine TC.seq ?_
  refine TC.region ?_
  refine q rfl rfl (asg rfl) ?_
  refine TL.nil (nt ?_)
  refine TC.seq ?_
  refine TC.seq ?_
  refine TC.region ?_
  refine q rfl rfl (mv rfl) ?_
  refine q rfl rfl (eqNil rfl rfl rfl) ?_
  refine TL.nil (nt ?_)
  refine TC.condF rfl ?_
  refine TC.skip (nt ?_)
  refine TC.seq ?_
  refine TC.region ?_
  refine q rfl rfl (mv rfl) ?_
  first | refine q rfl rfl (nc rfl) ?_ | refine q rfl rfl (ncF rfl) ?_ | refine q rfl rfl (ncS rfl (by first | assumption | (simp [ints_length] <;> omega))) ?_
  first | refine q rfl rfl (fa 8 rfl rfl) ?_ | refine q rfl rfl (faS 8 rfl rfl (by first | assumption | (simp [ints_length] <;> omega))) ?_
  first | refine q rfl rfl (ld rfl rfl rfl) ?_ | refine q rfl rfl (ldS rfl rfl rfl) ?_
  refine q rfl rfl (mv rfl) ?_
  refine q rfl rfl (luF 3 104 rfl rfl (KL.int rfl) rfl rfl) ?_
  refine q rfl rfl (asg rfl) ?_
  refine TL.nil (nt ?_)
  refine TC.ret ?_
  exact Ret.i () [_] ⟨rfl, trivial⟩ rfl trivial (ent_take 0 rfl (ent_take 0 rfl (ent_take 0 rfl (ent_nil _))))

set_option maxRecDepth 4000 in
theorem qat_nil (id : Int) : FSpec Try.prog 63 [.pointer none, .int .i64 id] noRd [] (fun _ : Unit => .pointer none) (fun _ => True) (fun _ => []) := by
  refine FSpec.intro (rs := [.tmp 4]) (by kernel_rfl) Try.func63 rfl Try.ntmps63 (by rfl) rfl ?_
  intro F _
  change TC _ _ _ _ _ _ _ (sepL [_])
  refine TC.seq ?_
  refine TC.region ?_
  refine q rfl rfl (asg (v := .pointer _) rfl) ?_
  refine TL.nil (nt ?_)
  refine TC.seq ?_
  refine TC.seq ?_
  refine TC.region ?_
  refine q rfl rfl (mv (v := .pointer _) rfl) ?_
  refine q rfl rfl (eqNil rfl rfl rfl) ?_
  refine TL.nil (nt ?_)
  refine TC.condT rfl ?_
  refine TC.seq ?_
  refine TC.region ?_
  refine q rfl rfl (asg (v := .pointer _) rfl) ?_
  refine TL.nil (nt ?_)
  refine TC.ret (rt ?_)
  exact Ret.i () [_] ⟨rfl, trivial⟩ rfl trivial (ent_take 0 rfl (ent_nil _))

set_option maxRecDepth 4000 in
theorem again_ok (b : Nat) (w l r : Int) : FSpec Try.prog 64 [.pointer (some ⟨b, 0, none⟩)] noRd [pts b 109 [.int .i64 w, .int .i64 l, .int .i64 r]] (fun _ : Unit => .tuple #[]) (fun _ => True) (fun _ => [pts b 109 [.int .i64 w, .int .i64 w, .int .i64 r]]) := by
  refine FSpec.intro (rs := []) (by kernel_rfl) Try.func64 rfl Try.ntmps64 (by rfl) rfl ?_
  intro F _
  change TC _ _ _ _ _ _ _ (sepL [_, _])
  refine TC.region ?_
  refine q rfl rfl (mv (v := .pointer _) rfl) ?_
  refine q rfl rfl (mv (v := .pointer _) rfl) ?_
  first | refine q rfl rfl (nc rfl) ?_ | refine q rfl rfl (ncF rfl) ?_ | refine q rfl rfl (ncS rfl (by first | assumption | (simp [ints_length] <;> omega))) ?_
  first | refine q rfl rfl (fa 0 rfl rfl) ?_ | refine q rfl rfl (faS 0 rfl rfl (by first | assumption | (simp [ints_length] <;> omega))) ?_
  first | refine q rfl rfl (ld rfl rfl rfl) ?_ | refine q rfl rfl (ldS rfl rfl rfl) ?_
  first | refine q rfl rfl (nc rfl) ?_ | refine q rfl rfl (ncF rfl) ?_ | refine q rfl rfl (ncS rfl (by first | assumption | (simp [ints_length] <;> omega))) ?_
  first | refine q rfl rfl (fa 1 rfl rfl) ?_ | refine q rfl rfl (faS 1 rfl rfl (by first | assumption | (simp [ints_length] <;> omega))) ?_
  refine e0 ?_
  refine st (v := .int _ _) (vs := [_]) 1 rfl rfl rfl rfl rfl rfl (Nat.le_of_ble_eq_true rfl) rfl ?_
  refine TL.nil ?_
  exact Ret.n () [] trivial rfl trivial (ent_take 0 rfl (ent_take 0 rfl (ent_nil _)))

set_option maxRecDepth 4000 in
theorem spend_ok (b : Nat) (w l r : Int) (hl : 0 ≤ l ∧ l ≤ 100) : FSpec Try.prog 74 [.pointer (some ⟨b, 0, none⟩)] noRd [pts b 109 [.int .i64 w, .int .i64 l, .int .i64 r]] (fun _ : Unit => .bool (decide (l - 1 = 0))) (fun _ => True) (fun _ => [pts b 109 [.int .i64 w, .int .i64 (l - 1), .int .i64 r]]) := by
  refine FSpec.intro (rs := [.tmp 2]) (by kernel_rfl) Try.func74 rfl Try.ntmps74 (by rfl) rfl ?_
  intro F _
  change TC _ _ _ _ _ _ _ (sepL [_, _])
  refine TC.seq ?_
  refine TC.region ?_
  refine q rfl rfl (asg (v := .bool _) rfl) ?_
  refine TL.nil (nt ?_)
  refine TC.seq ?_
  refine TC.region ?_
  refine q rfl rfl (mv (v := .pointer _) rfl) ?_
  first | refine q rfl rfl (nc rfl) ?_ | refine q rfl rfl (ncF rfl) ?_ | refine q rfl rfl (ncS rfl (by first | assumption | (simp [ints_length] <;> omega))) ?_
  first | refine q rfl rfl (fa 1 rfl rfl) ?_ | refine q rfl rfl (faS 1 rfl rfl (by first | assumption | (simp [ints_length] <;> omega))) ?_
  first | refine q rfl rfl (ld rfl rfl rfl) ?_ | refine q rfl rfl (ldS rfl rfl rfl) ?_
  first | refine q rfl rfl (subI rfl rfl (by omega) (by omega)) ?_ | refine q rfl rfl (sub rfl rfl rfl) ?_
  first | refine q rfl rfl (nc rfl) ?_ | refine q rfl rfl (ncF rfl) ?_ | refine q rfl rfl (ncS rfl (by first | assumption | (simp [ints_length] <;> omega))) ?_
  first | refine q rfl rfl (fa 1 rfl rfl) ?_ | refine q rfl rfl (faS 1 rfl rfl (by first | assumption | (simp [ints_length] <;> omega))) ?_
  refine e0 ?_
  refine st (v := .int _ _) (vs := [_]) 1 rfl rfl rfl rfl rfl rfl (Nat.le_of_ble_eq_true rfl) rfl ?_
  refine TL.nil (nt ?_)
  refine TC.seq ?_
  refine TC.region ?_
  refine q rfl rfl (mv (v := .pointer _) rfl) ?_
  first | refine q rfl rfl (nc rfl) ?_ | refine q rfl rfl (ncF rfl) ?_ | refine q rfl rfl (ncS rfl (by first | assumption | (simp [ints_length] <;> omega))) ?_
  first | refine q rfl rfl (fa 1 rfl rfl) ?_ | refine q rfl rfl (faS 1 rfl rfl (by first | assumption | (simp [ints_length] <;> omega))) ?_
  first | refine q rfl rfl (ld rfl rfl rfl) ?_ | refine q rfl rfl (ldS rfl rfl rfl) ?_
  refine q rfl rfl (eqI rfl rfl) ?_
  refine q rfl rfl (asg (v := .bool _) rfl) ?_
  refine TL.nil (nt ?_)
  refine TC.ret ?_
  exact Ret.i () [_] ⟨rfl, trivial⟩ rfl trivial (ent_take 0 rfl (ent_take 0 rfl (ent_nil _)))

set_option maxRecDepth 4000 in
theorem drop1_ok (b : Nat) (id x : Int) : FSpec Try.prog 78 [.int .i64 x, .pointer (some ⟨b, 0, none⟩)] (fun F => Rd F b (.cells #[Value.int .i64 id] 3 (0, 0))) [] (fun _ : Unit => .bool (decide (x = id))) (fun _ => True) (fun _ => []) := by
  refine FSpec.intro (rs := [.tmp 3]) (by kernel_rfl) Try.func78 rfl Try.ntmps78 (by rfl) rfl ?_
  intro F hF
  change TC _ _ _ _ _ _ _ (sepL [_])
  haveI : RdI F b (.cells #[Value.int .i64 id] 3 (0, 0)) := ⟨hF⟩
  refine TC.seq ?_
  refine TC.region ?_
  refine q rfl rfl (asg (v := .bool _) rfl) ?_
  refine TL.nil (nt ?_)
  refine TC.seq ?_
  refine TC.region ?_
  refine q rfl rfl (mv (v := .int _ _) rfl) ?_
  first | refine q rfl rfl (ld rfl rfl rfl) ?_ | refine q rfl rfl (ldS rfl rfl rfl) ?_
  refine q rfl rfl (eqI rfl rfl) ?_
  refine q rfl rfl (asg (v := .bool _) rfl) ?_
  refine TL.nil (nt ?_)
  refine TC.ret ?_
  exact Ret.i () [_] ⟨rfl, trivial⟩ rfl trivial (ent_take 0 rfl (ent_nil _))

set_option maxRecDepth 4000 in
theorem run_ok (qp : Nat) (S : List Th) (hn : S.length ≤ 1000000) : FSpec Try.prog 42 [.pointer (some ⟨qp, 0, none⟩)] noRd [isQ qp S] (fun _ : Unit => .int .i64 (runS S)) (fun _ => True) (fun _ => [isQ qp S]) := by
  refine FSpec.intro (rs := [.tmp 2]) (by kernel_rfl) Try.func42 rfl Try.ntmps42 (by rfl) rfl ?_
  intro F _
  change TC _ _ _ _ _ _ _ (sepL [_, _])
  refine TC.open 0 rfl (fun x0 hx0 => ?_)
  obtain ⟨ad, cap, mb, A⟩ := x0
  have hR := hx0
  change TC _ _ _ _ _ _ _ (sepL [_, _, _, _, _])
  dsimp only at hR ⊢
  refine TC.seq ?_
  refine TC.region ?_
  refine q rfl rfl (asg (v := .int _ _) rfl) ?_
  refine TL.nil (nt ?_)
  refine TC.seq ?_
  refine TC.seq ?_
  refine TC.region ?_
  refine q rfl rfl (asg (v := .int _ _) rfl) ?_
  refine TL.nil (nt ?_)
  refine TC.block ?_
  refine TC.loop (ι := Nat) (fun k => k ≤ 8 ∧ ∀ x, k ≤ x → x < 8 → rowA S x = []) (fun k => [(0, .pointer (some ⟨qp, 0, none⟩)), (3, .int .i64 ((k : Int) - 1))]) (fun k => sepL [pts qp 89 (hdS ad cap mb S), bigS (rowP ad cap S) (List.range 8), mapF encI mb (fS A S) S.length, bigS (thP A) S, F]) (fun k => k) 8 ⟨Nat.le_refl _, fun x h1 h2 => by omega⟩ ⟨rfl, rfl, trivial⟩ (ent_take 0 rfl (ent_take 0 rfl (ent_take 0 rfl (ent_take 0 rfl (ent_take 0 rfl (ent_nil _)))))) ?_
  rintro k ⟨hk, hem⟩ ρ0
  dsimp only [updL] at hk hem ⊢
  refine TC.seq ?_
  refine TC.seq ?_
  refine TC.region ?_
  refine q rfl rfl (mv (v := .pointer _) rfl) ?_
  refine q rfl rfl (neNil rfl rfl rfl) ?_
  refine q rfl rfl (mv (v := .bool _) rfl) ?_
  refine TL.known 7 rfl (c := true) rfl ?_
  refine qg rfl rfl rfl (mv (v := .int _ _) rfl) ?_
  refine qg rfl rfl rfl (geq rfl rfl) ?_
  first | refine q rfl rfl (pkT (v := .bool _) rfl rfl) ?_ | refine q rfl rfl (pkF (v := .bool _) rfl rfl) ?_
  refine TL.nil (nt ?_)
  first | refine TC.condD rfl (fun hge => ?_) (fun hge => ?_) | refine TC.cond rfl (fun hge => ?_) (fun hge => ?_)
  · obtain ⟨p, rfl⟩ : ∃ z, k = z + 1 := ⟨k - 1, by omega⟩
    rw [show (((p + 1 : Nat) : Int) - 1) = (p : Int) from by omega]
    have hp8 : p < 8 := by omega
    obtain ⟨L, hL, hLn⟩ := range_perm hp8
    refine TC.weak (ent_openB 1 rfl hL) ?_
    refine TC.skip (nt ?_)
    refine TC.seq ?_
    refine TC.block ?_
    refine TC.seq ?_
    refine TC.region ?_
    refine q rfl rfl (mv (v := .pointer _) rfl) ?_
    refine q rfl rfl (mv (v := .int _ _) rfl) ?_
    first | refine q rfl rfl (nc rfl) ?_ | refine q rfl rfl (ncF rfl) ?_ | refine q rfl rfl (ncS rfl (by first | assumption | (simp [ints_length] <;> omega))) ?_
    first | refine q rfl rfl (fa 0 rfl rfl) ?_ | refine q rfl rfl (faS 0 rfl rfl (by first | assumption | (simp [ints_length] <;> omega))) ?_
    refine q rfl rfl (ixAl 8 45 1 rfl rfl rfl (by omega) (by omega)) ?_
    first | refine q rfl rfl (ld rfl rfl rfl) ?_ | refine q rfl rfl (ld rfl rfl (rows_ld hp8 (by omega))) ?_ | refine q rfl rfl (ldS rfl rfl rfl) ?_
    refine q rfl rfl (asg (v := .slice _ _ _) rfl) ?_
    refine TL.nil (nt ?_)
    refine TC.seq ?_
    refine TC.region ?_
    refine q rfl rfl (mv (v := .slice _ _ _) rfl) ?_
    refine q rfl rfl (len 3 1 rfl rfl) ?_
    refine q rfl rfl (gtr rfl rfl) ?_
    refine TL.nil (nt ?_)
    first | refine TC.condD rfl (fun hlen => ?_) (fun hlen => ?_) | refine TC.cond rfl (fun hlen => ?_) (fun hlen => ?_)
    · obtain ⟨x0, rest, hrow⟩ : ∃ x0 rest, rowA S p = x0 :: rest := by
        cases hr0 : rowA S p with
        | nil => rw [hr0] at hlen; simp at hlen
        | cons a l => exact ⟨a, l, rfl⟩
      obtain ⟨t, ht1, ht2, ht3⟩ := top_row hR (fun x h1 h2 => hem x (by omega) h2) hrow
      have hv : runS S = x0 := by rw [runS, ht1, ← ht2]
      rw [hv]
      have hx0 : (rowA S p)[0]? = some x0 := by rw [hrow]; rfl
      have hil := ints_length (rowA S p)
      have hpos : 0 < (ints (rowA S p)).length := by omega
      refine TC.seq ?_
      refine TC.region ?_
      refine q rfl rfl (mv (v := .slice _ _ _) rfl) ?_
      first | refine q rfl rfl (ixS 3 1 rfl rfl rfl (by omega) (by first | assumption | (simp [ints_length] <;> omega))) ?_ | refine q rfl rfl (ixJ 3 1 rfl rfl rfl (by omega) (by omega) (by first | assumption | (simp [ints_length] <;> omega))) ?_ | refine q rfl rfl (ix 3 1 rfl rfl rfl (by omega) (by omega) rfl) ?_
      first | refine q rfl rfl (ld rfl rfl rfl) ?_ | refine q rfl rfl (ld rfl rfl (rows_ld hp8 (by omega))) ?_ | refine q rfl rfl (ldS rfl rfl (ints_get hx0)) ?_ | refine q rfl rfl (ldS rfl rfl rfl) ?_
      refine q rfl rfl (asg (v := .int _ _) rfl) ?_
      refine TL.nil (nt ?_)
      refine TC.ret (rb (rt (rt (rb (rt ?_)))))
      exact Ret.i () [_] ⟨rfl, trivial⟩ rfl trivial (ent_close ⟨ad, cap, mb, A⟩ hR (ent_take 2 rfl (ent_closeB 0 0 p rfl rfl rfl (fun _ _ => rfl) hL.symm (ent_take 0 rfl (ent_take 0 rfl (ent_take 0 rfl (ent_nil _)))))))
    · refine TC.skip (nb (nt ?_))
      refine TC.region ?_
      refine q rfl rfl (mv (v := .int _ _) rfl) ?_
      first | refine q rfl rfl (subI rfl rfl (by omega) (by omega)) ?_ | refine q rfl rfl (sub rfl rfl rfl) ?_
      refine q rfl rfl (asg (v := .int _ _) rfl) ?_
      refine TL.nil (nt ?_)
      exact ⟨rfl, p, ⟨by omega, fun x h1 h2 => by rcases Nat.lt_or_eq_of_le h1 with h3 | h3; exact hem x (by omega) h2; subst h3; exact List.length_eq_zero_iff.1 (by omega)⟩, (by omega), ⟨rfl, rfl, trivial⟩, (ent_take 2 rfl (ent_closeB 0 0 p rfl rfl rfl (fun _ _ => rfl) hL.symm (ent_take 0 rfl (ent_take 0 rfl (ent_take 0 rfl (ent_nil _))))))⟩
  · obtain rfl : k = 0 := by omega
    have hS := top_none hR (fun x h => hem x (by omega) h)
    have hv : runS S = -1 := by rw [hS]; rfl
    rw [hv]
    refine TC.exit (et (et (eb (nt ?_))))
    refine TC.seq ?_
    refine TC.region ?_
    refine q rfl rfl (asg (v := .int _ _) rfl) ?_
    refine TL.nil (nt ?_)
    refine TC.ret ?_
    exact Ret.i () [_] ⟨rfl, trivial⟩ rfl trivial (ent_close ⟨ad, cap, mb, A⟩ hR (ent_take 0 rfl (ent_take 0 rfl (ent_take 0 rfl (ent_take 0 rfl (ent_take 0 rfl (ent_nil _)))))))

set_option maxRecDepth 4000 in
theorem run_nil  : FSpec Try.prog 42 [.pointer none] noRd [] (fun _ : Unit => .int .i64 (-1)) (fun _ => True) (fun _ => []) := by
  refine FSpec.intro (rs := [.tmp 2]) (by kernel_rfl) Try.func42 rfl Try.ntmps42 (by rfl) rfl ?_
  intro F _
  change TC _ _ _ _ _ _ _ (sepL [_])
  refine TC.seq ?_
  refine TC.region ?_
  refine q rfl rfl (asg (v := .int _ _) rfl) ?_
  refine TL.nil (nt ?_)
  refine TC.seq ?_
  refine TC.seq ?_
  refine TC.region ?_
  refine q rfl rfl (asg (v := .int _ _) rfl) ?_
  refine TL.nil (nt ?_)
  refine TC.block ?_
  refine TC.loop (ι := Unit) (fun s => True) (fun s => [(0, .pointer none), (3, .int .i64 7)]) (fun s => sepL [F]) (fun s => 0) () trivial ⟨rfl, rfl, trivial⟩ (ent_take 0 rfl (ent_nil _)) ?_
  rintro _ _ ρ0
  dsimp only [updL]
  refine TC.seq ?_
  refine TC.seq ?_
  refine TC.region ?_
  refine q rfl rfl (mv (v := .pointer _) rfl) ?_
  refine q rfl rfl (neNil rfl rfl rfl) ?_
  refine q rfl rfl (mv (v := .bool _) rfl) ?_
  refine TL.known 7 rfl (c := false) rfl ?_
  refine qs rfl rfl ?_
  refine qs rfl rfl ?_
  first | refine q rfl rfl (pkT (v := .bool _) rfl rfl) ?_ | refine q rfl rfl (pkF (v := .bool _) rfl rfl) ?_
  refine TL.nil (nt ?_)
  refine TC.condF rfl ?_
  refine TC.exit (et (et (eb (nt ?_))))
  refine TC.seq ?_
  refine TC.region ?_
  refine q rfl rfl (asg (v := .int _ _) rfl) ?_
  refine TL.nil (nt ?_)
  refine TC.ret ?_
  exact Ret.i () [_] ⟨rfl, trivial⟩ rfl trivial (ent_take 0 rfl (ent_nil _))

set_option maxRecDepth 4000 in
theorem row_ok (qp : Nat) (S : List Th) (hn : S.length ≤ 1000000) (pr : Int) : FSpec Try.prog 52 [.pointer (some ⟨qp, 0, none⟩), .int .i64 pr] noRd [isQ qp S] (fun y : Option Addr × Nat => .slice y.1 (rowR S pr).length y.2) (fun _ => True) (fun y => [slc 3 1 y.1 (rowR S pr).length y.2 (ints (rowR S pr)), isQ qp S]) := by
  refine FSpec.intro (rs := [.tmp 4]) (by kernel_rfl) Try.func52 rfl Try.ntmps52 (by rfl) rfl ?_
  intro F _
  change TC _ _ _ _ _ _ _ (sepL [_, _])
  refine TC.seq ?_
  refine TC.region ?_
  refine q rfl rfl (asg (v := .slice _ _ _) rfl) ?_
  refine TL.nil (nt ?_)
  refine TC.seq ?_
  refine TC.seq ?_
  refine TC.region ?_
  refine q rfl rfl (mv (v := .pointer _) rfl) ?_
  refine q rfl rfl (eqNil rfl rfl rfl) ?_
  refine q rfl rfl (mv (v := .bool _) rfl) ?_
  refine TL.known 7 rfl (c := false) rfl ?_
  refine qg rfl rfl rfl (mv (v := .int _ _) rfl) ?_
  refine qg rfl rfl rfl (lss rfl rfl) ?_
  first | refine q rfl rfl (pkT (v := .bool _) rfl rfl) ?_ | refine q rfl rfl (pkF (v := .bool _) rfl rfl) ?_
  refine q rfl rfl (mv (v := .bool _) rfl) ?_
  refine TL.split 11 rfl (fun h0 => ?_) (fun h0 => ?_)
  · have h0 := of_decide_eq_true h0
    have hv : rowR S pr = [] := by rw [rowR, if_neg (by omega)]
    rw [hv]
    refine qs rfl rfl ?_
    refine qs rfl rfl ?_
    first | refine q rfl rfl (pkT (v := .bool _) rfl rfl) ?_ | refine q rfl rfl (pkF (v := .bool _) rfl rfl) ?_
    refine TL.nil (nt ?_)
    refine TC.condT rfl ?_
    refine TC.seq ?_
    refine TC.region ?_
    refine q rfl rfl (asg (v := .slice _ _ _) rfl) ?_
    refine TL.nil (nt ?_)
    refine TC.ret (rt ?_)
    exact Ret.i ⟨none, 0⟩ [_] ⟨rfl, trivial⟩ rfl trivial ((slc_nil 3 1 _).trans (ent_take 0 rfl (ent_take 0 rfl (ent_take 0 rfl (ent_nil _)))))
  · have h0 := of_decide_eq_false h0
    refine qg rfl rfl rfl (mv (v := .int _ _) rfl) ?_
    refine qg rfl rfl rfl (gtr rfl rfl) ?_
    first | refine q rfl rfl (pkT (v := .bool _) rfl rfl) ?_ | refine q rfl rfl (pkF (v := .bool _) rfl rfl) ?_
    refine TL.nil (nt ?_)
    first | refine TC.condD rfl (fun h7 => ?_) (fun h7 => ?_) | refine TC.cond rfl (fun h7 => ?_) (fun h7 => ?_)
    · have hv : rowR S pr = [] := by rw [rowR, if_neg (by omega)]
      rw [hv]
      refine TC.seq ?_
      refine TC.region ?_
      refine q rfl rfl (asg (v := .slice _ _ _) rfl) ?_
      refine TL.nil (nt ?_)
      refine TC.ret (rt ?_)
      exact Ret.i ⟨none, 0⟩ [_] ⟨rfl, trivial⟩ rfl trivial ((slc_nil 3 1 _).trans (ent_take 0 rfl (ent_take 0 rfl (ent_take 0 rfl (ent_nil _)))))
    · obtain ⟨p, rfl⟩ := Int.eq_ofNat_of_zero_le (show 0 ≤ pr by omega)
      have hp8 : p < 8 := by omega
      have hv : rowR S (p : Int) = rowA S p := by rw [rowR, if_pos (by omega), Int.toNat_natCast]
      rw [hv]
      obtain ⟨L, hL, hLn⟩ := range_perm hp8
      have hrl := rowA_len S p
      refine TC.open 0 rfl (fun x0 hx0 => ?_)
      obtain ⟨ad, cap, mb, A⟩ := x0
      have hR := hx0
      change TC _ _ _ _ _ _ _ (sepL [_, _, _, _, _])
      dsimp only at hR ⊢
      refine TC.weak (ent_openB 1 rfl hL) ?_
      refine TC.skip (nt ?_)
      refine TC.seq ?_
      refine TC.region ?_
      refine q rfl rfl (mv (v := .pointer _) rfl) ?_
      refine q rfl rfl (mv (v := .int _ _) rfl) ?_
      first | refine q rfl rfl (nc rfl) ?_ | refine q rfl rfl (ncF rfl) ?_ | refine q rfl rfl (ncS rfl (by first | assumption | (simp [ints_length] <;> omega))) ?_
      first | refine q rfl rfl (fa 0 rfl rfl) ?_ | refine q rfl rfl (faS 0 rfl rfl (by first | assumption | (simp [ints_length] <;> omega))) ?_
      refine q rfl rfl (ixAl 8 45 1 rfl rfl rfl (by omega) (by omega)) ?_
      first | refine q rfl rfl (ld rfl rfl rfl) ?_ | refine q rfl rfl (ld rfl rfl (rows_ld hp8 (by omega))) ?_ | refine q rfl rfl (ldS rfl rfl rfl) ?_
      refine e rfl ?_
      refine cl (cloneI_ok (ad p) (cap p) (rowA S p) (by omega)) rfl (picked_nil _) ⟨_, RdSI.rd (ad := ad p)⟩ ?_
      intro y _
      change TL _ _ _ _ _ _ _ _ (sepL [_, _, _, _, _, _, _])
      refine q rfl rfl (asg (v := .slice _ _ _) rfl) ?_
      refine TL.nil (nt ?_)
      refine TC.ret ?_
      exact Ret.i y [_] ⟨rfl, trivial⟩ rfl trivial (ent_take 0 rfl (ent_close ⟨ad, cap, mb, A⟩ hR (ent_take 2 rfl (ent_closeB 0 0 p rfl rfl rfl (fun _ _ => rfl) hL.symm (ent_take 0 rfl (ent_take 0 rfl (ent_take 0 rfl (ent_nil _))))))))

set_option maxRecDepth 4000 in
theorem row_nil (pr : Int) : FSpec Try.prog 52 [.pointer none, .int .i64 pr] noRd [] (fun _ : Unit => .slice none 0 0) (fun _ => True) (fun _ => []) := by
  refine FSpec.intro (rs := [.tmp 4]) (by kernel_rfl) Try.func52 rfl Try.ntmps52 (by rfl) rfl ?_
  intro F _
  change TC _ _ _ _ _ _ _ (sepL [_])
  refine TC.seq ?_
  refine TC.region ?_
  refine q rfl rfl (asg (v := .slice _ _ _) rfl) ?_
  refine TL.nil (nt ?_)
  refine TC.seq ?_
  refine TC.seq ?_
  refine TC.region ?_
  refine q rfl rfl (mv (v := .pointer _) rfl) ?_
  refine q rfl rfl (eqNil rfl rfl rfl) ?_
  refine q rfl rfl (mv (v := .bool _) rfl) ?_
  refine TL.known 7 rfl (c := true) rfl ?_
  refine qs rfl rfl ?_
  refine qs rfl rfl ?_
  first | refine q rfl rfl (pkT (v := .bool _) rfl rfl) ?_ | refine q rfl rfl (pkF (v := .bool _) rfl rfl) ?_
  refine q rfl rfl (mv (v := .bool _) rfl) ?_
  refine qs rfl rfl ?_
  refine qs rfl rfl ?_
  first | refine q rfl rfl (pkT (v := .bool _) rfl rfl) ?_ | refine q rfl rfl (pkF (v := .bool _) rfl rfl) ?_
  refine TL.nil (nt ?_)
  refine TC.condT rfl ?_
  refine TC.seq ?_
  refine TC.region ?_
  refine q rfl rfl (asg (v := .slice _ _ _) rfl) ?_
  refine TL.nil (nt ?_)
  refine TC.ret (rt ?_)
  exact Ret.i () [_] ⟨rfl, trivial⟩ rfl trivial (ent_take 0 rfl (ent_nil _))

set_option maxRecDepth 4000 in
theorem add_ok (qp : Nat) (S : List Th) (hn : S.length ≤ 1000000) (id pr sl : Int) : FSpec Try.prog 38 [.pointer (some ⟨qp, 0, none⟩), .int .i64 id, .int .i64 pr, .int .i64 sl] noRd [isQ qp S] (fun _ : Unit => .int .i64 (addS S id pr sl).2) (fun _ => True) (fun _ => [isQ qp (addS S id pr sl).1]) := by
  refine FSpec.intro (rs := [.tmp 8]) (by kernel_rfl) Try.func38 rfl Try.ntmps38 (by rfl) rfl ?_
  intro F _
  change TC _ _ _ _ _ _ _ (sepL [_, _])
  refine TC.seq ?_
  refine TC.region ?_
  refine q rfl rfl (asg (v := .int _ _) rfl) ?_
  refine TL.nil (nt ?_)
  refine TC.seq ?_
  refine TC.block ?_
  refine TC.seq ?_
  refine TC.region ?_
  refine q rfl rfl (mv (v := .pointer _) rfl) ?_
  refine q rfl rfl (eqNil rfl rfl rfl) ?_
  refine q rfl rfl (mv (v := .bool _) rfl) ?_
  refine TL.known 13 rfl (c := false) rfl ?_
  refine qg rfl rfl rfl (mv (v := .int _ _) rfl) ?_
  refine qg rfl rfl rfl (lss rfl rfl) ?_
  first | refine q rfl rfl (pkT (v := .bool _) rfl rfl) ?_ | refine q rfl rfl (pkF (v := .bool _) rfl rfl) ?_
  refine q rfl rfl (mv (v := .bool _) rfl) ?_
  refine TL.split 17 rfl (fun hs0 => ?_) (fun hs0 => ?_)
  · have hs0 := of_decide_eq_true hs0
    have hv : addS S id pr sl = (S, 1) := by rw [addS, if_pos (by omega)]
    rw [hv]
    dsimp only
    refine qs rfl rfl ?_
    refine qs rfl rfl ?_
    first | refine q rfl rfl (pkT (v := .bool _) rfl rfl) ?_ | refine q rfl rfl (pkF (v := .bool _) rfl rfl) ?_
    refine q rfl rfl (mv (v := .bool _) rfl) ?_
    refine qs rfl rfl ?_
    refine qs rfl rfl ?_
    first | refine q rfl rfl (pkT (v := .bool _) rfl rfl) ?_ | refine q rfl rfl (pkF (v := .bool _) rfl rfl) ?_
    refine q rfl rfl (mv (v := .bool _) rfl) ?_
    refine qs rfl rfl ?_
    refine qs rfl rfl ?_
    first | refine q rfl rfl (pkT (v := .bool _) rfl rfl) ?_ | refine q rfl rfl (pkF (v := .bool _) rfl rfl) ?_
    refine q rfl rfl (mv (v := .bool _) rfl) ?_
    refine qs rfl rfl ?_
    refine qs rfl rfl ?_
    first | refine q rfl rfl (pkT (v := .bool _) rfl rfl) ?_ | refine q rfl rfl (pkF (v := .bool _) rfl rfl) ?_
    refine q rfl rfl (asg (v := .bool _) rfl) ?_
    refine TL.nil (nt ?_)
    refine TC.condT rfl ?_
    refine TC.seq ?_
    refine TC.region ?_
    refine q rfl rfl (asg (v := .int _ _) rfl) ?_
    refine TL.nil (nt ?_)
    refine TC.ret (rb (rt ?_))
    exact Ret.i () [_] ⟨rfl, trivial⟩ rfl trivial (ent_take 0 rfl (ent_take 0 rfl (ent_nil _)))
  · have hs0 := of_decide_eq_false hs0
    refine qg rfl rfl rfl (mv (v := .int _ _) rfl) ?_
    refine qg rfl rfl rfl (lss rfl rfl) ?_
    first | refine q rfl rfl (pkT (v := .bool _) rfl rfl) ?_ | refine q rfl rfl (pkF (v := .bool _) rfl rfl) ?_
    refine q rfl rfl (mv (v := .bool _) rfl) ?_
    refine TL.split 21 rfl (fun hs1 => ?_) (fun hs1 => ?_)
    · have hs1 := of_decide_eq_true hs1
      have hv : addS S id pr sl = (S, 1) := by rw [addS, if_pos (by omega)]
      rw [hv]
      dsimp only
      refine qs rfl rfl ?_
      refine qs rfl rfl ?_
      first | refine q rfl rfl (pkT (v := .bool _) rfl rfl) ?_ | refine q rfl rfl (pkF (v := .bool _) rfl rfl) ?_
      refine q rfl rfl (mv (v := .bool _) rfl) ?_
      refine qs rfl rfl ?_
      refine qs rfl rfl ?_
      first | refine q rfl rfl (pkT (v := .bool _) rfl rfl) ?_ | refine q rfl rfl (pkF (v := .bool _) rfl rfl) ?_
      refine q rfl rfl (mv (v := .bool _) rfl) ?_
      refine qs rfl rfl ?_
      refine qs rfl rfl ?_
      first | refine q rfl rfl (pkT (v := .bool _) rfl rfl) ?_ | refine q rfl rfl (pkF (v := .bool _) rfl rfl) ?_
      refine q rfl rfl (asg (v := .bool _) rfl) ?_
      refine TL.nil (nt ?_)
      refine TC.condT rfl ?_
      refine TC.seq ?_
      refine TC.region ?_
      refine q rfl rfl (asg (v := .int _ _) rfl) ?_
      refine TL.nil (nt ?_)
      refine TC.ret (rb (rt ?_))
      exact Ret.i () [_] ⟨rfl, trivial⟩ rfl trivial (ent_take 0 rfl (ent_take 0 rfl (ent_nil _)))
    · have hs1 := of_decide_eq_false hs1
      refine qg rfl rfl rfl (mv (v := .int _ _) rfl) ?_
      refine qg rfl rfl rfl (gtr rfl rfl) ?_
      first | refine q rfl rfl (pkT (v := .bool _) rfl rfl) ?_ | refine q rfl rfl (pkF (v := .bool _) rfl rfl) ?_
      refine q rfl rfl (mv (v := .bool _) rfl) ?_
      refine TL.split 25 rfl (fun hs2 => ?_) (fun hs2 => ?_)
      · have hs2 := of_decide_eq_true hs2
        have hv : addS S id pr sl = (S, 1) := by rw [addS, if_pos (by omega)]
        rw [hv]
        dsimp only
        refine qs rfl rfl ?_
        refine qs rfl rfl ?_
        first | refine q rfl rfl (pkT (v := .bool _) rfl rfl) ?_ | refine q rfl rfl (pkF (v := .bool _) rfl rfl) ?_
        refine q rfl rfl (mv (v := .bool _) rfl) ?_
        refine qs rfl rfl ?_
        refine qs rfl rfl ?_
        first | refine q rfl rfl (pkT (v := .bool _) rfl rfl) ?_ | refine q rfl rfl (pkF (v := .bool _) rfl rfl) ?_
        refine q rfl rfl (asg (v := .bool _) rfl) ?_
        refine TL.nil (nt ?_)
        refine TC.condT rfl ?_
        refine TC.seq ?_
        refine TC.region ?_
        refine q rfl rfl (asg (v := .int _ _) rfl) ?_
        refine TL.nil (nt ?_)
        refine TC.ret (rb (rt ?_))
        exact Ret.i () [_] ⟨rfl, trivial⟩ rfl trivial (ent_take 0 rfl (ent_take 0 rfl (ent_nil _)))
      · have hs2 := of_decide_eq_false hs2
        refine qg rfl rfl rfl (mv (v := .int _ _) rfl) ?_
        refine qg rfl rfl rfl (lss rfl rfl) ?_
        first | refine q rfl rfl (pkT (v := .bool _) rfl rfl) ?_ | refine q rfl rfl (pkF (v := .bool _) rfl rfl) ?_
        refine q rfl rfl (mv (v := .bool _) rfl) ?_
        refine TL.split 29 rfl (fun hs3 => ?_) (fun hs3 => ?_)
        · have hs3 := of_decide_eq_true hs3
          have hv : addS S id pr sl = (S, 1) := by rw [addS, if_pos (by omega)]
          rw [hv]
          dsimp only
          refine qs rfl rfl ?_
          refine qs rfl rfl ?_
          first | refine q rfl rfl (pkT (v := .bool _) rfl rfl) ?_ | refine q rfl rfl (pkF (v := .bool _) rfl rfl) ?_
          refine q rfl rfl (asg (v := .bool _) rfl) ?_
          refine TL.nil (nt ?_)
          refine TC.condT rfl ?_
          refine TC.seq ?_
          refine TC.region ?_
          refine q rfl rfl (asg (v := .int _ _) rfl) ?_
          refine TL.nil (nt ?_)
          refine TC.ret (rb (rt ?_))
          exact Ret.i () [_] ⟨rfl, trivial⟩ rfl trivial (ent_take 0 rfl (ent_take 0 rfl (ent_nil _)))
        · have hs3 := of_decide_eq_false hs3
          refine qg rfl rfl rfl (mv (v := .int _ _) rfl) ?_
          refine qg rfl rfl rfl (gtr rfl rfl) ?_
          first | refine q rfl rfl (pkT (v := .bool _) rfl rfl) ?_ | refine q rfl rfl (pkF (v := .bool _) rfl rfl) ?_
          refine q rfl rfl (asg (v := .bool _) rfl) ?_
          refine TL.nil (nt ?_)
          first | refine TC.condD rfl (fun hs4 => ?_) (fun hs4 => ?_) | refine TC.cond rfl (fun hs4 => ?_) (fun hs4 => ?_)
          · have hv : addS S id pr sl = (S, 1) := by rw [addS, if_pos (by omega)]
            rw [hv]
            dsimp only
            refine TC.seq ?_
            refine TC.region ?_
            refine q rfl rfl (asg (v := .int _ _) rfl) ?_
            refine TL.nil (nt ?_)
            refine TC.ret (rb (rt ?_))
            exact Ret.i () [_] ⟨rfl, trivial⟩ rfl trivial (ent_take 0 rfl (ent_take 0 rfl (ent_nil _)))
          · refine TC.open 0 rfl (fun x0 hx0 => ?_)
            obtain ⟨ad, cap, mb, A⟩ := x0
            have hR := hx0
            change TC _ _ _ _ _ _ _ (sepL [_, _, _, _, _])
            dsimp only at hR ⊢
            by_cases hy : hasS S id
            · have hf := fS_yes (A := A) hy
              have hv : addS S id pr sl = (S, 7) := by rw [addS, if_neg (by omega), if_pos hy]
              rw [hv]
              dsimp only
              refine TC.seq ?_
              refine TC.region ?_
              refine q rfl rfl (mv (v := .pointer _) rfl) ?_
              refine q rfl rfl (mv (v := .int _ _) rfl) ?_
              refine e rfl ?_
              refine cl (qat_ok qp _ mb S.length (fS A S) id) rfl (picked_cons 0 rfl (picked_cons 1 rfl (picked_nil _))) trivial ?_
              intro _ _
              change TL _ _ _ _ _ _ _ _ (sepL [_, _, _, _, _])
              rw [hf]
              refine q rfl rfl (neNil rfl rfl rfl) ?_
              refine q rfl rfl (asg (v := .bool _) rfl) ?_
              refine TL.nil (nt ?_)
              refine TC.condT rfl ?_
              refine TC.seq ?_
              refine TC.region ?_
              refine q rfl rfl (asg (v := .int _ _) rfl) ?_
              refine TL.nil (nt ?_)
              refine TC.ret (rb (rt ?_))
              exact Ret.i () [_] ⟨rfl, trivial⟩ rfl trivial (ent_close ⟨ad, cap, mb, A⟩ hR (ent_take 0 rfl (ent_take 1 rfl (ent_take 0 rfl (ent_take 0 rfl (ent_take 0 rfl (ent_nil _)))))))
            · have hf := fS_no (A := A) hy
              have hv : addS S id pr sl = (S ++ [⟨id, pr, sl, sl⟩], 0) := by rw [addS, if_neg (by omega), if_neg hy]
              rw [hv]
              dsimp only
              obtain ⟨p, rfl⟩ := Int.eq_ofNat_of_zero_le (show 0 ≤ pr by omega)
              have hp8 : p < 8 := by omega
              obtain ⟨L, hL, hLn⟩ := range_perm hp8
              have hrl := rowA_len S p
              have hR2 := hR.add (t := ⟨id, p, sl, sl⟩) hy (by dsimp only; omega)
              have hrow : ∀ x, x ≠ p → rowA (S ++ [⟨id, (p : Int), sl, sl⟩]) x = rowA S x := fun x hx => by rw [rowA_app, rowA_one_ne (by dsimp only; omega), List.append_nil]
              have hrowp : rowA (S ++ [⟨id, (p : Int), sl, sl⟩]) p = rowA S p ++ [id] := by rw [rowA_app, rowA_one rfl]
              have hil := ints_length (rowA S p)
              refine TC.weak (ent_openB 1 rfl hL) ?_
              refine TC.seq ?_
              refine TC.region ?_
              refine q rfl rfl (mv (v := .pointer _) rfl) ?_
              refine q rfl rfl (mv (v := .int _ _) rfl) ?_
              refine e rfl ?_
              refine cl (qat_ok qp _ mb S.length (fS A S) id) rfl (picked_cons 2 rfl (picked_cons 2 rfl (picked_nil _))) trivial ?_
              intro _ _
              change TL _ _ _ _ _ _ _ _ (sepL [_, _, _, _, _, _])
              rw [hf]
              refine q rfl rfl (neNil rfl rfl rfl) ?_
              refine q rfl rfl (asg (v := .bool _) rfl) ?_
              refine TL.nil (nt ?_)
              refine TC.condF rfl ?_
              refine TC.skip (nb (nt ?_))
              refine TC.seq ?_
              refine TC.region ?_
              refine q rfl rfl (mv (v := .int _ _) rfl) ?_
              first | refine q rfl rfl (bld (cs := [.int _ _, .int _ _]) rfl) ?_ | refine q rfl rfl (bld (cs := [_, _]) rfl) ?_
              refine q rfl rfl (mv (v := .int _ _) rfl) ?_
              first | refine q rfl rfl (bld (cs := [.int _ _, .int _ _, .int _ _]) rfl) ?_ | refine q rfl rfl (bld (cs := [_, _, _]) rfl) ?_
              refine e rfl ?_
              refine bx (v := .agg #[_, _, _]) (l := [.int _ _, .int _ _, .int _ _]) rfl rfl ?_
              intro b3
              refine q rfl rfl (asg (v := .pointer _) rfl) ?_
              refine TL.nil (nt ?_)
              refine TC.seq ?_
              refine TC.region ?_
              refine q rfl rfl (mv (v := .pointer _) rfl) ?_
              first | refine q rfl rfl (nc rfl) ?_ | refine q rfl rfl (ncF rfl) ?_ | refine q rfl rfl (ncS rfl (by first | assumption | (simp [ints_length] <;> omega))) ?_
              first | refine q rfl rfl (fa 0 rfl rfl) ?_ | refine q rfl rfl (faS 0 rfl rfl (by first | assumption | (simp [ints_length] <;> omega))) ?_
              refine e rfl ?_
              refine cl (again_ok b3 sl 0 p) rfl (picked_cons 0 rfl (picked_nil _)) trivial ?_
              intro _ _
              change TL _ _ _ _ _ _ _ _ (sepL [_, _, _, _, _, _, _])
              refine TL.nil (nt ?_)
              refine TC.seq ?_
              refine TC.region ?_
              refine q rfl rfl (mv (v := .pointer _) rfl) ?_
              first | refine q rfl rfl (nc rfl) ?_ | refine q rfl rfl (ncF rfl) ?_ | refine q rfl rfl (ncS rfl (by first | assumption | (simp [ints_length] <;> omega))) ?_
              first | refine q rfl rfl (fa 8 rfl rfl) ?_ | refine q rfl rfl (faS 8 rfl rfl (by first | assumption | (simp [ints_length] <;> omega))) ?_
              first | refine q rfl rfl (ld rfl rfl rfl) ?_ | refine q rfl rfl (ld rfl rfl (rows_ld hp8 (by omega))) ?_ | refine q rfl rfl (ldS rfl rfl rfl) ?_
              refine q rfl rfl (mv (v := .int _ _) rfl) ?_
              refine q rfl rfl (mv (v := .pointer _) rfl) ?_
              refine e0 ?_
              refine muF 3 104 rfl (KL.int rfl) rfl rfl rfl ?_
              refine TL.nil (nt ?_)
              refine TC.seq ?_
              refine TC.draw _ [14] [(0, false), (1, false), (2, false), (3, false), (4, false), (5, false), (6, false), (7, false), (8, false), (11, false), (12, false), (9, true), (10, true), (13, false), (14, true)] (by kernel_rfl) (by kernel_rfl) (ent_take 2 rfl (ent_nil _)) ?_
              refine dq rfl rfl rfl (mv (v := .pointer _) rfl) ?_
              refine dq rfl rfl rfl (mv (v := .int _ _) rfl) ?_
              refine dq rfl rfl rfl (mv (v := .pointer _) rfl) ?_
              refine dq rfl rfl rfl (mv (v := .int _ _) rfl) ?_
              first | refine dq rfl rfl rfl (nc rfl) ?_ | refine dq rfl rfl rfl (ncF rfl) ?_ | refine dq rfl rfl rfl (ncS rfl (by first | assumption | (simp [ints_length] <;> omega))) ?_
              first | refine dq rfl rfl rfl (fa 0 rfl rfl) ?_ | refine dq rfl rfl rfl (faS 0 rfl rfl (by first | assumption | (simp [ints_length] <;> omega))) ?_
              refine dq rfl rfl rfl (ixAl 8 45 1 rfl rfl rfl (by omega) (by omega)) ?_
              first | refine dq rfl rfl rfl (ld rfl rfl rfl) ?_ | refine dq rfl rfl rfl (ld rfl rfl (rows_ld hp8 (by omega))) ?_ | refine dq rfl rfl rfl (ldS rfl rfl rfl) ?_
              refine dq rfl rfl rfl (mv (v := .int _ _) rfl) ?_
              first | refine dq rfl rfl rfl (nc rfl) ?_ | refine dq rfl rfl rfl (ncF rfl) ?_ | refine dq rfl rfl rfl (ncS rfl (by first | assumption | (simp [ints_length] <;> omega))) ?_
              first | refine dq rfl rfl rfl (fa 0 rfl rfl) ?_ | refine dq rfl rfl rfl (faS 0 rfl rfl (by first | assumption | (simp [ints_length] <;> omega))) ?_
              refine de rfl rfl ?_
              refine bs (cs := [.int _ _]) rfl ?_
              intro b4
              refine ⟨(by repeat (first | exact ent_nil _ | refine ent_take 0 rfl ?_ | refine ent_take 1 rfl ?_ | refine ent_take 2 rfl ?_ | refine ent_take 3 rfl ?_ | refine ent_take 4 rfl ?_ | refine ent_take 5 rfl ?_ | refine ent_take 6 rfl ?_ | refine ent_take 7 rfl ?_ | refine ent_take 8 rfl ?_ | refine ent_take 9 rfl ?_ | refine ent_take 10 rfl ?_ | refine ent_take 11 rfl ?_ | refine ent_take 12 rfl ?_)), ?_⟩
              refine de rfl rfl ?_
              refine ap 8 rfl rfl rfl rfl rfl (Nat.le_of_ble_eq_true rfl) (show _ = ints [id] from rfl) rfl (by omega) (by simp only [maxLen]; omega) ?_
              intro ad1 cap1
              refine ⟨(by repeat (first | exact ent_nil _ | refine ent_take 0 rfl ?_ | refine ent_take 1 rfl ?_ | refine ent_take 2 rfl ?_ | refine ent_take 3 rfl ?_ | refine ent_take 4 rfl ?_ | refine ent_take 5 rfl ?_ | refine ent_take 6 rfl ?_ | refine ent_take 7 rfl ?_ | refine ent_take 8 rfl ?_ | refine ent_take 9 rfl ?_ | refine ent_take 10 rfl ?_ | refine ent_take 11 rfl ?_ | refine ent_take 12 rfl ?_)), ?_⟩
              refine dq rfl rfl rfl (ixAl 8 45 1 rfl rfl rfl (by omega) (by omega)) ?_
              refine dl0 rfl rfl rfl ?_
              first | refine st (v := .slice _ _ _) (vs := [_]) 1 rfl rfl rfl rfl rfl rfl (Nat.le_of_ble_eq_true rfl) rfl ?_ | refine st (v := .slice _ _ _) (vs := [_]) 1 rfl rfl rfl rfl rfl rfl (by rw [rows_length]; simp; omega) (rows_st _ hp8 (by omega)) ?_
              refine TD.nil (nt ?_)
              refine TC.seq ?_
              refine TC.region ?_
              refine q rfl rfl (asg (v := .int _ _) rfl) ?_
              refine TL.nil (nt ?_)
              refine TC.ret ?_
              exact Ret.i () [_] ⟨rfl, trivial⟩ rfl trivial (ent_close ⟨updN ad p ad1, updN cap p cap1, mb, updI A id b3⟩ hR2 (ent_takeE 0 rfl (congrArg (pts qp 89) (hd_upd (n := (rowA S p).length + 1) hrow (by rw [hrowp, List.length_append]; rfl))) (ent_closeB 0 3 p rfl rfl (by dsimp only [rowP]; rw [updN_same, updN_same, hrowp, List.length_append, List.length_singleton, ints_app1]) (rows_ne hLn hrow) hL.symm (ent_takeE 1 rfl (by dsimp only; rw [fS_add (t := ⟨id, (p : Int), sl, sl⟩), hf, List.length_append]; rfl) (ent_closeB 1 1 ⟨id, (p : Int), sl, sl⟩ rfl rfl (by dsimp only [thP]; rw [updI_same]; rfl) (fun u hu => by dsimp only [thP]; rw [updI_ne (fun e2 => hy ⟨u, hu, e2⟩)]) (List.perm_append_singleton _ _).symm (ent_take 1 rfl (ent_nil _)))))))

set_option maxRecDepth 4000 in
theorem add_nil (id pr sl : Int) : FSpec Try.prog 38 [.pointer none, .int .i64 id, .int .i64 pr, .int .i64 sl] noRd [] (fun _ : Unit => .int .i64 1) (fun _ => True) (fun _ => []) := by
  refine FSpec.intro (rs := [.tmp 8]) (by kernel_rfl) Try.func38 rfl Try.ntmps38 (by rfl) rfl ?_
  intro F _
  change TC _ _ _ _ _ _ _ (sepL [_])
  refine TC.seq ?_
  refine TC.region ?_
  refine q rfl rfl (asg (v := .int _ _) rfl) ?_
  refine TL.nil (nt ?_)
  refine TC.seq ?_
  refine TC.block ?_
  refine TC.seq ?_
  refine TC.region ?_
  refine q rfl rfl (mv (v := .pointer _) rfl) ?_
  refine q rfl rfl (eqNil rfl rfl rfl) ?_
  refine q rfl rfl (mv (v := .bool _) rfl) ?_
  refine TL.known 13 rfl (c := true) rfl ?_
  refine qs rfl rfl ?_
  refine qs rfl rfl ?_
  first | refine q rfl rfl (pkT (v := .bool _) rfl rfl) ?_ | refine q rfl rfl (pkF (v := .bool _) rfl rfl) ?_
  refine q rfl rfl (mv (v := .bool _) rfl) ?_
  refine qs rfl rfl ?_
  refine qs rfl rfl ?_
  first | refine q rfl rfl (pkT (v := .bool _) rfl rfl) ?_ | refine q rfl rfl (pkF (v := .bool _) rfl rfl) ?_
  refine q rfl rfl (mv (v := .bool _) rfl) ?_
  refine qs rfl rfl ?_
  refine qs rfl rfl ?_
  first | refine q rfl rfl (pkT (v := .bool _) rfl rfl) ?_ | refine q rfl rfl (pkF (v := .bool _) rfl rfl) ?_
  refine q rfl rfl (mv (v := .bool _) rfl) ?_
  refine qs rfl rfl ?_
  refine qs rfl rfl ?_
  first | refine q rfl rfl (pkT (v := .bool _) rfl rfl) ?_ | refine q rfl rfl (pkF (v := .bool _) rfl rfl) ?_
  refine q rfl rfl (mv (v := .bool _) rfl) ?_
  refine qs rfl rfl ?_
  refine qs rfl rfl ?_
  first | refine q rfl rfl (pkT (v := .bool _) rfl rfl) ?_ | refine q rfl rfl (pkF (v := .bool _) rfl rfl) ?_
  refine q rfl rfl (asg (v := .bool _) rfl) ?_
  refine TL.nil (nt ?_)
  refine TC.condT rfl ?_
  refine TC.seq ?_
  refine TC.region ?_
  refine q rfl rfl (asg (v := .int _ _) rfl) ?_
  refine TL.nil (nt ?_)
  refine TC.ret (rb (rt ?_))
  exact Ret.i () [_] ⟨rfl, trivial⟩ rfl trivial (ent_take 0 rfl (ent_nil _))

end Go.Proofs.Ytdfmfhcjnjfjbaa.Rd
