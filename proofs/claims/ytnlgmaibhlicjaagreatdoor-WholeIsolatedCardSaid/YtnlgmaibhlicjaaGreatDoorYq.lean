/- Proved here: contracts of functions of this program, under the premises that each theorem names. -/
import Derived.Test.YtnlgmaibhlicjaaGreatDoorYp
set_option maxRecDepth 4000
namespace Go.Proofs.YtnlgmaibhlicjaaGreatDoor
open Go Go.QM
structure GotF (top : Nat) (S : PS) (p : Nat) : Prop where
  lt : p < 2 ^ top
  new : p ∉ pgs S.C S.Fr
  inv : ∀ Q nx m, PInv top ⟨Q, nx, S.C, p :: S.Fr, m⟩
theorem pgs_frame (C : Nat → List Pg) (Fr : List Nat) (p : Nat) : (p :: pgs C Fr).Perm (pgs C (p :: Fr)) := by
 rw [pgs, pgs]; exact List.perm_middle.symm
theorem PInv.gotF {top : Nat} {S : PS} (h : PInv top S) {p : Nat} (h1 : p < 2 ^ top) (h2 : p ∉ pgs S.C S.Fr) : GotF top S p :=
 ⟨h1, h2, fun Q nx m => ⟨h.tp, h.ok, h.one, (pgs_frame _ _ _).nodup_iff.1 (List.nodup_cons.2 ⟨h2, h.nd⟩), fun q hq => by
  rcases List.mem_cons.1 ((pgs_frame _ _ _).mem_iff.2 hq) with rfl | hq
  ·exact h1
  ·exact h.lt q hq⟩⟩
def ob (k : Int) (a : Nat) (f : Int) : Hd.Ob := ⟨k, a, f⟩
theorem comem_ok (cb pb hb qb : Nat) : FSpec Tryz.prog 9 [.pointer (some ⟨cb, 0, none⟩)] noRd [pts cb 87 [.pointer (some ⟨pb, 0, none⟩), .pointer (some ⟨hb, 0, none⟩), .pointer (some ⟨qb, 0, none⟩)]] (fun _ : Unit => .pointer (some ⟨pb, 0, none⟩)) (fun _ => True) (fun _ => [pts cb 87 [.pointer (some ⟨pb, 0, none⟩), .pointer (some ⟨hb, 0, none⟩), .pointer (some ⟨qb, 0, none⟩)]]) := by
 refine fI Tryz.func9 Tryz.ntmps9 ?_
 intro F _
 refine zz [39,0,1,24,2,0,0,1,6,34,2,10,7,0,1,6,13,14,12,24,2,11] ?_
 exact zc1
theorem coof_ok (cb pb hb qb : Nat) (l : List Hd.Pl) (ho : Hd.OkT l) (h : Int) (hh : 0 ≤ h ∧ h ≤ 4294967295) (o : Hd.Ob) (hg : Hd.getR l h = (o, 0)) (kind : Int) (hk : kind = 0 ∨ o.k = kind) : FSpec Tryz.prog 48 [.pointer (some ⟨cb, 0, none⟩), .int .u32 h, .int .i64 kind] noRd [pts cb 87 [.pointer (some ⟨pb, 0, none⟩), .pointer (some ⟨hb, 0, none⟩), .pointer (some ⟨qb, 0, none⟩)], slc 174 5 (some ⟨hb, 0, none⟩) 256 256 (Hd.tabC l)] (fun _ : Unit => .tuple #[.agg (ints o.l).toArray, .int .i64 0]) (fun _ => True) (fun _ => [pts cb 87 [.pointer (some ⟨pb, 0, none⟩), .pointer (some ⟨hb, 0, none⟩), .pointer (some ⟨qb, 0, none⟩)], slc 174 5 (some ⟨hb, 0, none⟩) 256 256 (Hd.tabC l)]) := by
 refine fI Tryz.func48 Tryz.ntmps48 ?_
 intro F _
 refine zz [44,0,1,5] ?_
 refine al (l := [.int _ _, .int _ _, .int _ _]) rfl rfl ?_
 intro b1
 refine zz [4,2,0,0,1,6,34,2,10,7,0,1,6,13,47,12,3,5] ?_
 refine cl (Hd.get_ok hb l h ho hh) rfl (picked_nil _) ⟨_, RdSI.rd (ad := some ⟨hb, 0, none⟩)⟩ ?_
 intro _ _
 refine zz [46] ?_
 rw [hg]
 dsimp only
 refine zz [26,75,15,5] ?_
 refine al (l := [.int _ _, .int _ _, .int _ _]) rfl rfl ?_
 intro b2
 refine zz [21,48,4,2,0,0,1,3,30,20,217,32,92,19,20] ?_
 rcases hk with rfl | hk
 ·refine TL.known 28 rfl (c := false) (decide_eq_false (by omega)) ?_
  refine zz [22,22,22,22,19,2,10,7,0,1,76,3,21,48,4,2,11] ?_
  exact zc6
 ·by_cases hk0 : kind = 0
  ·subst hk0
   refine TL.known 28 rfl (c := false) (decide_eq_false (by omega)) ?_
   refine zz [22,22,22,22,19,2,10,7,0,1,76,3,21,48,4,2,11] ?_
   exact zc6
  ·refine TL.known 28 rfl (c := true) (decide_eq_true hk0) ?_
   refine zz [96,52,32,92,19,2] ?_
   refine TC.condD rfl (fun hc1 => absurd hc1 (fun h => h hk)) (fun hc1 => ?_)
   refine zz [7,0,1,76,3,21,48,4,2,11] ?_
   exact zc6
theorem coof_kind (cb pb hb qb : Nat) (l : List Hd.Pl) (ho : Hd.OkT l) (h : Int) (hh : 0 ≤ h ∧ h ≤ 4294967295) (o : Hd.Ob) (hg : Hd.getR l h = (o, 0)) (kind : Int) (hk : kind ≠ 0 ∧ o.k ≠ kind) : FSpec Tryz.prog 48 [.pointer (some ⟨cb, 0, none⟩), .int .u32 h, .int .i64 kind] noRd [pts cb 87 [.pointer (some ⟨pb, 0, none⟩), .pointer (some ⟨hb, 0, none⟩), .pointer (some ⟨qb, 0, none⟩)], slc 174 5 (some ⟨hb, 0, none⟩) 256 256 (Hd.tabC l)] (fun _ : Unit => .tuple #[.agg (ints Hd.zeroOb.l).toArray, .int .i64 10]) (fun _ => True) (fun _ => [pts cb 87 [.pointer (some ⟨pb, 0, none⟩), .pointer (some ⟨hb, 0, none⟩), .pointer (some ⟨qb, 0, none⟩)], slc 174 5 (some ⟨hb, 0, none⟩) 256 256 (Hd.tabC l)]) := by
 refine fI Tryz.func48 Tryz.ntmps48 ?_
 intro F _
 refine zz [44,0,1,5] ?_
 refine al (l := [.int _ _, .int _ _, .int _ _]) rfl rfl ?_
 intro b3
 refine zz [4,2,0,0,1,6,34,2,10,7,0,1,6,13,47,12,3,5] ?_
 refine cl (Hd.get_ok hb l h ho hh) rfl (picked_nil _) ⟨_, RdSI.rd (ad := some ⟨hb, 0, none⟩)⟩ ?_
 intro _ _
 refine zz [46] ?_
 rw [hg]
 dsimp only
 refine zz [26,75,15,5] ?_
 refine al (l := [.int _ _, .int _ _, .int _ _]) rfl rfl ?_
 intro b4
 refine zz [21,48,4,2,0,0,1,3,30,20,217,32,92,19,20] ?_
 refine TL.known 28 rfl (c := true) (decide_eq_true hk.1) ?_
 refine zz [96,52,32,92,19,2] ?_
 refine TC.condD rfl (fun hc2 => ?_) (fun hc2 => absurd (hk.2) hc2)
 refine zz [0,1,89,21,48,4,2,51] ?_
 exact zc6
theorem coword_ok (cb pb hb qb : Nat) (top : Nat) (S : PS) (k f : Int) (a : Nat) (ha : a + 8 ≤ 1024 * 2 ^ top) (h8 : a % 8 = 0) (hw : ldW S.m a < 2 ^ 63) : FSpec Tryz.prog 80 [.pointer (some ⟨cb, 0, none⟩), .agg (ints (ob k a f).l).toArray] noRd [pts cb 87 [.pointer (some ⟨pb, 0, none⟩), .pointer (some ⟨hb, 0, none⟩), .pointer (some ⟨qb, 0, none⟩)], isPl pb top S] (fun _ : Unit => .int .i64 (ldW S.m a : Int)) (fun _ => True) (fun _ => [pts cb 87 [.pointer (some ⟨pb, 0, none⟩), .pointer (some ⟨hb, 0, none⟩), .pointer (some ⟨qb, 0, none⟩)], isPl pb top S]) := by
 refine fI Tryz.func80 Tryz.ntmps80 ?_
 intro F _
 refine zz [44] ?_
 refine TC.open 1 rfl (fun x0 hx0 => ?_)
 obtain ⟨tt, bd, ar, ca⟩ := x0
 have hP := hx0
 refine zz [104] ?_
 dsimp only at hP ⊢
 have htp := hP.tp
 have htq : 2 ^ top ≤ 128 := Nat.pow_le_pow_right (n := 2) (by decide) htp.2
 refine zz [0,1,5] ?_
 refine bx (v := .agg #[_, _, _]) (l := [.int _ _, .int _ _, .int _ _]) rfl rfl ?_
 intro b7
 refine zz [4,2,0] ?_
 refine TC.draw _ [] [(0, false), (1, false), (2, false), (3, false), (5, false), (6, false), (4, true), (7, true), (8, false), (9, false), (10, false), (11, false), (12, false)] (by kernel_rfl) (by kernel_rfl) (ent_take 0 rfl (ent_take 5 rfl (ent_nil _))) ?_
 refine zz [28,31,25,18,60,18,16] ?_
 refine cl (plarena_ok pb tt bd ar ca) rfl PkL.p trivial ?_
 intro _ _
 refine zz [100,8,16] ?_
 refine cl (arload_ok ar (1024 * 2 ^ top) a S.m (by omega) ha h8) rfl PkL.p trivial ?_
 intro _ _
 refine zz [100,8,83,55,55,41,41,27,0,1,3] ?_
 refine q rfl rfl (conv .u64 .i64 rfl rfl rfl (wN hw)) ?_
 refine zz [4,2,11] ?_
 exact Ret.i () [_] ⟨rfl, trivial⟩ rfl trivial (ent_take 6 rfl (ent_close (⟨tt, bd, ar, ca⟩ : PlRep) hP entS))
theorem coown_ok (cb pb hb qb : Nat) (top : Nat) (S : PS) (l : List Hd.Pl) (ho : Hd.OkT l) (h : Int) (hh : 0 ≤ h ∧ h ≤ 4294967295) (a : Nat) (f : Int) (hg : Hd.getR l h = (ob 1 a f, 0)) (ha : a + 8 ≤ 1024 * 2 ^ top) (h8 : a % 8 = 0) (hw : ldW S.m a < 2 ^ 63) : FSpec Tryz.prog 39 [.pointer (some ⟨cb, 0, none⟩), .int .u32 h] noRd [pts cb 87 [.pointer (some ⟨pb, 0, none⟩), .pointer (some ⟨hb, 0, none⟩), .pointer (some ⟨qb, 0, none⟩)], isPl pb top S, slc 174 5 (some ⟨hb, 0, none⟩) 256 256 (Hd.tabC l)] (fun _ : Unit => .tuple #[.int .i64 (ldW S.m a : Int), .int .i64 0]) (fun _ => True) (fun _ => [pts cb 87 [.pointer (some ⟨pb, 0, none⟩), .pointer (some ⟨hb, 0, none⟩), .pointer (some ⟨qb, 0, none⟩)], isPl pb top S, slc 174 5 (some ⟨hb, 0, none⟩) 256 256 (Hd.tabC l)]) := by
 refine fI Tryz.func39 Tryz.ntmps39 ?_
 intro F _
 refine zz [77,0,1,4,4,2,0,1,6,3,5] ?_
 refine cl (coof_ok cb pb hb qb l ho h hh (ob 1 a f) hg 1 (.inr rfl)) rfl PkL.p trivial ?_
 intro _ _
 refine zz [46,26,75,15,5] ?_
 refine al (l := [.int _ _, .int _ _, .int _ _]) rfl rfl ?_
 intro b8
 refine zz [21,48,4,2,0,0,1,3,23,2,10,7,0,1,6,76,5] ?_
 refine cl (coword_ok cb pb hb qb top S 1 f a ha h8 hw) rfl PkL.p trivial ?_
 intro _ _
 refine zz [57,4,4,2,11] ?_
 exact zc3
theorem comay_ok (k : Int) (h : k = 8 ∨ 1 ≤ k ∧ k ≤ 5) : FSpec Tryz.prog 40 [.int .i64 k] noRd [] (fun _ : Unit => .bool true) (fun _ => True) (fun _ => []) := by
 refine fI Tryz.func40 Tryz.ntmps40 ?_
 intro F _
 refine zz [37] ?_
 by_cases h8 : k = 8
 ·subst h8
  refine zz [0,1,9,2,0,1,3,30,20] ?_
  refine TL.known 5 rfl (c := true) (decide_eq_true (by omega)) ?_
  refine zz [22,22,22,129,129,22,19,9,2,11] ?_
  exact zc2
 ·refine zz [0,1,9,2,0,1,3,30,20] ?_
  refine TL.known 5 rfl (c := false) (decide_eq_false h8) ?_
  refine zz [32,139,117] ?_
  refine TL.known 8 rfl (c := true) (decide_eq_true (by omega)) ?_
  refine zz [32,150,108,19,9,2,11] ?_
  exact Ret.i () [_] ⟨rfl, trivial⟩ (congrArg Value.bool (decide_eq_true (by omega))) trivial (ent_take 0 rfl (ent_nil _))
theorem coget_ok (cb pb hb qb : Nat) (top : Nat) (S : PS) (a : Int) (c : Nat) (hc : c ∈ cls) (hroom : (pgs S.C S.Fr).length < 2 ^ top) (hq : (Qt.chargeQ S.Q a (clsz c : Int)).2 = 0) : FSpec Tryz.prog 41 [.pointer (some ⟨cb, 0, none⟩), .int .i64 a, .int .i64 (c : Int)] GV [pts cb 87 [.pointer (some ⟨pb, 0, none⟩), .pointer (some ⟨hb, 0, none⟩), .pointer (some ⟨qb, 0, none⟩)], isPl pb top S] (fun y : Nat × Nat × List Pg => .tuple #[.int .i64 (addr c y : Int), .int .i64 0]) (fun y => GotP top S c y) (fun y => [pts cb 87 [.pointer (some ⟨pb, 0, none⟩), .pointer (some ⟨hb, 0, none⟩), .pointer (some ⟨qb, 0, none⟩)], isPl pb top ⟨(Qt.chargeQ S.Q a (clsz c : Int)).1, S.nx, updN S.C c y.2.2, S.Fr, zB S.m (addr c y) (clsz c)⟩]) := by
 refine fI Tryz.func41 Tryz.ntmps41 ?_
 intro F hF
 refine zz [44] ?_
 haveI : GVI F := ⟨hF⟩
 have hc8 := cls_lt hc
 refine zz [0,1,4,4,2,0,0,1,3,23,2] ?_
 refine TC.condD rfl (fun hc3 => ?_) (fun hc3 => absurd (by have := cls_mem.1 hc; omega) hc3)
 refine zz [0,1,6,13,14,12,3,3,5] ?_
 refine cl (plget_ok pb top S a c hc hroom hq) rfl PkL.p GVI.gv ?_
 intro y hy
 refine zz [43,15,15,4,4,2,51] ?_
 exact Ret.i y [_, _] ⟨rfl, rfl, trivial⟩ rfl hy entS
theorem coget_no (cb pb hb qb : Nat) (top : Nat) (S : PS) (a : Int) (c : Nat) (hc : c ∈ cls) (hq : (Qt.chargeQ S.Q a (clsz c : Int)).2 ≠ 0) : FSpec Tryz.prog 41 [.pointer (some ⟨cb, 0, none⟩), .int .i64 a, .int .i64 (c : Int)] GV [pts cb 87 [.pointer (some ⟨pb, 0, none⟩), .pointer (some ⟨hb, 0, none⟩), .pointer (some ⟨qb, 0, none⟩)], isPl pb top S] (fun _ : Unit => .tuple #[.int .i64 0, .int .i64 (Qt.chargeQ S.Q a (clsz c : Int)).2]) (fun _ => True) (fun _ => [pts cb 87 [.pointer (some ⟨pb, 0, none⟩), .pointer (some ⟨hb, 0, none⟩), .pointer (some ⟨qb, 0, none⟩)], isPl pb top S]) := by
 refine fI Tryz.func41 Tryz.ntmps41 ?_
 intro F hF
 refine zz [44] ?_
 haveI : GVI F := ⟨hF⟩
 have hc8 := cls_lt hc
 refine zz [0,1,4,4,2,0,0,1,3,23,2] ?_
 refine TC.condD rfl (fun hc4 => ?_) (fun hc4 => absurd (by have := cls_mem.1 hc; omega) hc4)
 refine zz [0,1,6,13,14,12,3,3,5] ?_
 refine cl (plget_no pb top S a c hc hq) rfl PkL.p GVI.gv ?_
 intro _ _
 refine zz [43,15,15,4,4,2,51] ?_
 exact zc3
theorem cofr_ok (cb pb hb qb : Nat) (top : Nat) (S : PS) (a : Int) (hroom : (pgs S.C S.Fr).length < 2 ^ top) (hq : (Qt.chargeQ S.Q a 1024).2 = 0) : FSpec Tryz.prog 41 [.pointer (some ⟨cb, 0, none⟩), .int .i64 a, .int .i64 8] GV [pts cb 87 [.pointer (some ⟨pb, 0, none⟩), .pointer (some ⟨hb, 0, none⟩), .pointer (some ⟨qb, 0, none⟩)], isPl pb top S] (fun p : Nat => .tuple #[.int .i64 ((p : Int) * 1024), .int .i64 0]) (fun p => GotF top S p) (fun p => [pts cb 87 [.pointer (some ⟨pb, 0, none⟩), .pointer (some ⟨hb, 0, none⟩), .pointer (some ⟨qb, 0, none⟩)], isPl pb top ⟨(Qt.chargeQ S.Q a 1024).1, S.nx, S.C, p :: S.Fr, zB S.m (p * 1024) 1024⟩]) := by
 refine fI Tryz.func41 Tryz.ntmps41 ?_
 intro F hF
 refine zz [44] ?_
 haveI : GVI F := ⟨hF⟩
 refine zz [0,1,4,4,2,0,0,1,3,23,2,10] ?_
 refine TC.open 1 rfl (fun x0 hx0 => ?_)
 obtain ⟨tt, bd, ar, ca⟩ := x0
 have hP := hx0
 refine zz [104] ?_
 dsimp only at hP ⊢
 have htp := hP.tp
 have htq : 2 ^ top ≤ 128 := Nat.pow_le_pow_right (n := 2) (by decide) htp.2
 refine zz [7,0,0,1,6,13,14] ?_
 first | refine q rfl rfl (ld rfl rfl rfl) ?_ | refine q rfl rfl (ld rfl rfl (plC_head 8 tt bd ar ca).1) ?_ | refine q rfl rfl (ld rfl rfl (plC_head 8 tt bd ar ca).2.1) ?_ | refine q rfl rfl (ldS rfl rfl rfl) ?_
 refine zz [13,14] ?_
 first | refine q rfl rfl (ld rfl rfl rfl) ?_ | refine q rfl rfl (ld rfl rfl (plC_head 8 tt bd ar ca).1) ?_ | refine q rfl rfl (ld rfl rfl (plC_head 8 tt bd ar ca).2.1) ?_ | refine q rfl rfl (ldS rfl rfl rfl) ?_
 refine zz [3,5] ?_
 refine cl (Qt.qcharge_ok tt S.Q S.nx a 1024) rfl PkL.p trivial ?_
 intro _ _
 refine zz [49,4,2,0,1,3,23,2] ?_
 refine TC.condD rfl (fun hc5 => absurd hc5 (fun h => h hq)) (fun hc5 => ?_)
 refine zz [7,0,1,6,13,14] ?_
 first | refine q rfl rfl (ld rfl rfl rfl) ?_ | refine q rfl rfl (ld rfl rfl (plC_head 8 tt bd ar ca).1) ?_ | refine q rfl rfl (ld rfl rfl (plC_head 8 tt bd ar ca).2.1) ?_ | refine q rfl rfl (ldS rfl rfl rfl) ?_
 refine zz [13,47] ?_
 first | refine q rfl rfl (ld rfl rfl rfl) ?_ | refine q rfl rfl (ld rfl rfl (plC_head 8 tt bd ar ca).1) ?_ | refine q rfl rfl (ld rfl rfl (plC_head 8 tt bd ar ca).2.1) ?_ | refine q rfl rfl (ldS rfl rfl rfl) ?_
 refine e rfl ?_
 refine cl (bdtake_ok bd top (pgs S.C S.Fr) hroom) rfl PkL.p GVI.gv ?_
 intro pn hpn
 refine zz [49] ?_
 have hG := hP.gotF hpn.1 hpn.2
 have hpl := hpn.1
 refine zz [26,15,15,4,4,2,0,0,1,3,23,2,10,7,0,1,6,13,14] ?_
 first | refine q rfl rfl (ld rfl rfl rfl) ?_ | refine q rfl rfl (ld rfl rfl (plC_head 8 tt bd ar ca).1) ?_ | refine q rfl rfl (ld rfl rfl (plC_head 8 tt bd ar ca).2.1) ?_ | refine q rfl rfl (ldS rfl rfl rfl) ?_
 refine e rfl ?_
 refine cl (plarena_ok pb tt bd ar ca) rfl PkL.p trivial ?_
 intro _ _
 refine zz [49,3,5] ?_
 refine cl (arfill_ok ar (1024 * 2 ^ top) (pn * 1024) 1024 S.m (by omega) (by omega) (by omega)) (congrArg (fun z : Int => [Value.pointer (some ⟨ar, 0, none⟩), .int .i64 z, .int .i64 1024, .int .u8 0]) (by simp)) PkL.p trivial ?_
 intro _ _
 refine zz [49,2,0,1,3,4,4,2,11] ?_
 exact Ret.i pn [_, _] ⟨rfl, rfl, trivial⟩ rfl hG (ent_take 5 rfl (ent_close (⟨tt, bd, ar, ca⟩ : PlRep) (hG.inv _ _ _) (ent_take 1 rfl (ent_take 2 rfl (ent_takeW 1 rfl (bd_perm _ _ (pgs_frame _ _ _)) entS)))))
theorem cofr_no (cb pb hb qb : Nat) (top : Nat) (S : PS) (a : Int) (hq : (Qt.chargeQ S.Q a 1024).2 ≠ 0) : FSpec Tryz.prog 41 [.pointer (some ⟨cb, 0, none⟩), .int .i64 a, .int .i64 8] GV [pts cb 87 [.pointer (some ⟨pb, 0, none⟩), .pointer (some ⟨hb, 0, none⟩), .pointer (some ⟨qb, 0, none⟩)], isPl pb top S] (fun _ : Unit => .tuple #[.int .i64 0, .int .i64 (Qt.chargeQ S.Q a 1024).2]) (fun _ => True) (fun _ => [pts cb 87 [.pointer (some ⟨pb, 0, none⟩), .pointer (some ⟨hb, 0, none⟩), .pointer (some ⟨qb, 0, none⟩)], isPl pb top S]) := by
 refine fI Tryz.func41 Tryz.ntmps41 ?_
 intro F hF
 refine zz [44] ?_
 haveI : GVI F := ⟨hF⟩
 refine zz [0,1,4,4,2,0,0,1,3,23,2,10] ?_
 refine TC.open 1 rfl (fun x0 hx0 => ?_)
 obtain ⟨tt, bd, ar, ca⟩ := x0
 have hP := hx0
 refine zz [104] ?_
 dsimp only at hP ⊢
 have htp := hP.tp
 have htq : 2 ^ top ≤ 128 := Nat.pow_le_pow_right (n := 2) (by decide) htp.2
 refine zz [7,0,0,1,6,13,14] ?_
 first | refine q rfl rfl (ld rfl rfl rfl) ?_ | refine q rfl rfl (ld rfl rfl (plC_head 8 tt bd ar ca).1) ?_ | refine q rfl rfl (ld rfl rfl (plC_head 8 tt bd ar ca).2.1) ?_ | refine q rfl rfl (ldS rfl rfl rfl) ?_
 refine zz [13,14] ?_
 first | refine q rfl rfl (ld rfl rfl rfl) ?_ | refine q rfl rfl (ld rfl rfl (plC_head 8 tt bd ar ca).1) ?_ | refine q rfl rfl (ld rfl rfl (plC_head 8 tt bd ar ca).2.1) ?_ | refine q rfl rfl (ldS rfl rfl rfl) ?_
 refine zz [3,5] ?_
 refine cl (Qt.qcharge_ok tt S.Q S.nx a 1024) rfl PkL.p trivial ?_
 intro _ _
 refine zz [49,4,2,0,1,3,23,2] ?_
 refine TC.condD rfl (fun hc6 => ?_) (fun hc6 => absurd (hq) hc6)
 refine zz [0,1,3,4,4,2,51] ?_
 have hqn := charge_no hq
 exact Ret.i () [_, _] ⟨rfl, rfl, trivial⟩ rfl trivial (by rw [hqn]; exact (ent_take 5 rfl (ent_close (⟨tt, bd, ar, ca⟩ : PlRep) hP entS)))
end Go.Proofs.YtnlgmaibhlicjaaGreatDoor
namespace Go.Proofs.YtnlgmaibhlicjaaGreatDoor
open Go Go.QM
theorem cofound_ok (cb pb hb qb : Nat) (l : List Hd.Pl) (ho : Hd.OkT l) (hr : (Hd.allL l 0).length ≠ 0) (k : Int) (a : Nat) (f lim : Int) (hk : k ≠ 1) : FSpec Tryz.prog 42 [.pointer (some ⟨cb, 0, none⟩), .agg (ints (ob k a f).l).toArray, .int .i64 lim] noRd [pts cb 87 [.pointer (some ⟨pb, 0, none⟩), .pointer (some ⟨hb, 0, none⟩), .pointer (some ⟨qb, 0, none⟩)], slc 174 5 (some ⟨hb, 0, none⟩) 256 256 (Hd.tabC l)] (fun _ : Unit => .int .i64 0) (fun _ => True) (fun _ => [pts cb 87 [.pointer (some ⟨pb, 0, none⟩), .pointer (some ⟨hb, 0, none⟩), .pointer (some ⟨qb, 0, none⟩)], slc 174 5 (some ⟨hb, 0, none⟩) 256 256 (Hd.tabC l)]) := by
 refine fI Tryz.func42 Tryz.ntmps42 ?_
 intro F _
 refine zz [44,0,1,5] ?_
 refine bx (v := .agg #[_, _, _]) (l := [.int _ _, .int _ _, .int _ _]) rfl rfl ?_
 intro b1
 refine zz [4,2,0,0,1,6,13,47,12,5] ?_
 refine cl (Hd.room_ok hb l ho) rfl (picked_nil _) ⟨_, RdSI.rd (ad := some ⟨hb, 0, none⟩)⟩ ?_
 intro _ _
 refine zz [46,30,2] ?_
 refine TC.condD rfl (fun hc1 => absurd hc1 (by omega)) (fun hc1 => ?_)
 refine zz [7,0,0,1,14,12,23,2] ?_
 refine TC.condD rfl (fun hc2 => ?_) (fun hc2 => absurd (hk) hc2)
 refine zz [0,1,4,2,51] ?_
 exact zc0
theorem cofound_fac (cb pb hb qb : Nat) (top : Nat) (S : PS) (l : List Hd.Pl) (ho : Hd.OkT l) (hr : (Hd.allL l 0).length ≠ 0) (a : Nat) (f lim : Int) (ha : a + 8 ≤ 1024 * 2 ^ top) (h8 : a % 8 = 0) (hnx : S.nx ≤ 1000000) (idn : Nat) (hq : (Qt.carveQ S.Q S.nx f lim).2.2 = ((idn : Int), 0)) (hid : idn ≤ 1000000) : FSpec Tryz.prog 42 [.pointer (some ⟨cb, 0, none⟩), .agg (ints (ob 1 a f).l).toArray, .int .i64 lim] noRd [pts cb 87 [.pointer (some ⟨pb, 0, none⟩), .pointer (some ⟨hb, 0, none⟩), .pointer (some ⟨qb, 0, none⟩)], slc 174 5 (some ⟨hb, 0, none⟩) 256 256 (Hd.tabC l), isPl pb top S] (fun _ : Unit => .int .i64 0) (fun _ => True) (fun _ => [pts cb 87 [.pointer (some ⟨pb, 0, none⟩), .pointer (some ⟨hb, 0, none⟩), .pointer (some ⟨qb, 0, none⟩)], slc 174 5 (some ⟨hb, 0, none⟩) 256 256 (Hd.tabC l), isPl pb top ⟨(Qt.carveQ S.Q S.nx f lim).1, (Qt.carveQ S.Q S.nx f lim).2.1, S.C, S.Fr, stWs S.m a [idn]⟩]) := by
 refine fI Tryz.func42 Tryz.ntmps42 ?_
 intro F _
 refine zz [77] ?_
 have hq1 : (Qt.carveQ S.Q S.nx f lim).2.2.1 = (idn : Int) := by rw [hq]
 have hq2 : (Qt.carveQ S.Q S.nx f lim).2.2.2 = 0 := by rw [hq]
 refine zz [0,1,5] ?_
 refine bx (v := .agg #[_, _, _]) (l := [.int _ _, .int _ _, .int _ _]) rfl rfl ?_
 intro b2
 refine zz [4,2,0,0,1,6,13,47,12,5] ?_
 refine cl (Hd.room_ok hb l ho) rfl (picked_nil _) ⟨_, RdSI.rd (ad := some ⟨hb, 0, none⟩)⟩ ?_
 intro _ _
 refine zz [57,30,2] ?_
 refine TC.condD rfl (fun hc3 => absurd hc3 (by omega)) (fun hc3 => ?_)
 refine zz [7,0,0,1,14,12,23,2,10] ?_
 refine TC.open 3 rfl (fun x0 hx0 => ?_)
 obtain ⟨tt, bd, ar, ca⟩ := x0
 have hP := hx0
 refine zz [132] ?_
 dsimp only at hP ⊢
 have htp := hP.tp
 have htq : 2 ^ top ≤ 128 := Nat.pow_le_pow_right (n := 2) (by decide) htp.2
 have hPf : ∀ Q nx mm, PInv top ⟨Q, nx, S.C, S.Fr, mm⟩ := fun Q nx mm => ⟨hP.tp, hP.ok, hP.one, hP.nd, hP.lt⟩
 refine zz [7,0] ?_
 skip
 refine TC.draw _ [] [(0, false), (1, false), (2, false), (3, false), (4, false), (5, false), (6, false), (7, false), (8, false), (9, false), (10, true), (11, false), (12, false), (13, false), (14, false), (15, false)] (by kernel_rfl) (by kernel_rfl) (ent_take 0 rfl (ent_take 4 rfl (ent_take 4 rfl (ent_nil _)))) ?_
 refine zz [28,31,25] ?_
 first | refine dq rfl rfl rfl (ld rfl rfl rfl) ?_ | refine dq rfl rfl rfl (ld rfl rfl (plC_head 8 tt bd ar ca).1) ?_ | refine dq rfl rfl rfl (ldS rfl rfl rfl) ?_
 refine zz [31,25] ?_
 first | refine dq rfl rfl rfl (ld rfl rfl rfl) ?_ | refine dq rfl rfl rfl (ld rfl rfl (plC_head 8 tt bd ar ca).1) ?_ | refine dq rfl rfl rfl (ldS rfl rfl rfl) ?_
 refine zz [58] ?_
 first | refine dq rfl rfl rfl (ld rfl rfl rfl) ?_ | refine dq rfl rfl rfl (ld rfl rfl (plC_head 8 tt bd ar ca).1) ?_ | refine dq rfl rfl rfl (ldS rfl rfl rfl) ?_
 refine zz [33,16] ?_
 refine cl (Qt.qcarve_ok tt S.Q S.nx f lim hnx) rfl PkL.p trivial ?_
 intro _ _
 refine zz [118,8] ?_
 rw [hq1, hq2]
 refine zz [83,55,55,41,41,27,0] ?_
 refine TC.drawF _ [] 11 rfl (by kernel_rfl) (by kernel_rfl) (ent_take 5 rfl (ent_take 5 rfl (ent_nil _))) ?_
 refine zz [177,190,191] ?_
 first | refine fq (i := 3) rfl rfl rfl (by kernel_rfl) (ld rfl rfl rfl) ?_ | refine fq (i := 3) rfl rfl rfl (by kernel_rfl) (ld rfl rfl (plC_head 8 tt bd ar ca).1) ?_ | refine fq (i := 3) rfl rfl rfl (by kernel_rfl) (ldS rfl rfl rfl) ?_
 first | refine fq (i := 5) rfl rfl rfl (by kernel_rfl) (fa 1 rfl rfl) ?_ | refine fq (i := 5) rfl rfl rfl (by kernel_rfl) (faS 1 rfl rfl asm0) ?_
 first | refine fq (i := 6) rfl rfl rfl (by kernel_rfl) (ld rfl rfl rfl) ?_ | refine fq (i := 6) rfl rfl rfl (by kernel_rfl) (ld rfl rfl (plC_head 8 tt bd ar ca).1) ?_ | refine fq (i := 6) rfl rfl rfl (by kernel_rfl) (ldS rfl rfl rfl) ?_
 refine fq (i := 7) rfl rfl rfl (by kernel_rfl) (mv (v := .int _ _) rfl) ?_
 refine fq (i := 8) rfl rfl rfl (by kernel_rfl) (conv .i64 .u64 rfl rfl rfl (wU (by omega))) ?_
 refine ff (i := 4) (j := 9) rfl rfl rfl rfl (by kernel_rfl) ?_ ?_
 ·refine cl (plarena_ok pb tt bd ar ca) rfl PkL.p trivial ?_
  intro _ _
  refine zz [258,8] ?_
  refine TF.of [(9, true), (10, true)] (by kernel_rfl) rfl ?_
  refine zz [16,72] ?_
  intro b3
  refine zz [8,16] ?_
  refine cl (arstore_ok ar (1024 * 2 ^ top) a S.m [idn] (some ⟨b3, 0, none⟩) 1 (by omega) (by simp) (by simp only [List.length_cons, List.length_nil]; omega) (by omega) (by intro x hx; simp only [List.mem_cons, List.not_mem_nil, or_false] at hx; subst hx; omega)) rfl PkL.p ⟨_, RdSI.rd (ad := some ⟨b3, 0, none⟩)⟩ ?_
  intro _ _
  refine zz [127,8,27,0,1,3,4,2,11] ?_
  exact Ret.i () [_] ⟨rfl, trivial⟩ rfl trivial (ent_take 7 rfl (ent_take 7 rfl (ent_close (⟨tt, bd, ar, ca⟩ : PlRep) (hPf _ _ _) entS)))
 ·refine zz [72] ?_
  intro b4
  refine ⟨entS, ?_⟩
  refine TF.of [(4, true), (10, true)] (by kernel_rfl) rfl ?_
  refine de rfl rfl ?_
  refine cl (plarena_ok pb tt bd ar ca) rfl PkL.p trivial ?_
  intro _ _
  refine zz [127,8,16] ?_
  refine cl (arstore_ok ar (1024 * 2 ^ top) a S.m [idn] (some ⟨b4, 0, none⟩) 1 (by omega) (by simp) (by simp only [List.length_cons, List.length_nil]; omega) (by omega) (by intro x hx; simp only [List.mem_cons, List.not_mem_nil, or_false] at hx; subst hx; omega)) rfl PkL.p ⟨_, RdSI.rd (ad := some ⟨b4, 0, none⟩)⟩ ?_
  intro _ _
  refine zz [127,8,27,0,1,3,4,2,11] ?_
  exact Ret.i () [_] ⟨rfl, trivial⟩ rfl trivial (ent_take 7 rfl (ent_take 7 rfl (ent_close (⟨tt, bd, ar, ca⟩ : PlRep) (hPf _ _ _) entS)))
theorem comk_obj (cb pb hb qb : Nat) (top : Nat) (S : PS) (l : List Hd.Pl) (ho : Hd.OkT l) (h : Int) (hh : 0 ≤ h ∧ h ≤ 4294967295) (f9 : Nat) (g9 : Int) (hg : Hd.getR l h = (ob 1 f9 g9, 0)) (hfa : f9 + 8 ≤ 1024 * 2 ^ top) (hf8 : f9 % 8 = 0) (hw : ldW S.m f9 < 2 ^ 63) (c : Nat) (hc : c ∈ cls) (hc2 : 2 ≤ c ∧ c ≤ 5) (lim : Int) (hroom : (pgs S.C S.Fr).length < 2 ^ top) (hr : (Hd.allL l 0).length ≠ 0) (hq : (Qt.chargeQ S.Q (ldW S.m f9 : Int) (clsz c : Int)).2 = 0) : FSpec Tryz.prog 16 [.pointer (some ⟨cb, 0, none⟩), .int .u32 h, .int .i64 (c : Int), .int .i64 lim] GV [pts cb 87 [.pointer (some ⟨pb, 0, none⟩), .pointer (some ⟨hb, 0, none⟩), .pointer (some ⟨qb, 0, none⟩)], isPl pb top S, slc 174 5 (some ⟨hb, 0, none⟩) 256 256 (Hd.tabC l)] (fun y : Nat × Nat × List Pg => .tuple #[.int .u32 (Hd.putR l (ob (c : Int) (addr c y) (ldW S.m f9 : Int))).2.1, .int .i64 (Hd.putR l (ob (c : Int) (addr c y) (ldW S.m f9 : Int))).2.2]) (fun y => GotP top S c y) (fun y => [pts cb 87 [.pointer (some ⟨pb, 0, none⟩), .pointer (some ⟨hb, 0, none⟩), .pointer (some ⟨qb, 0, none⟩)], isPl pb top ⟨(Qt.chargeQ S.Q (ldW S.m f9 : Int) (clsz c : Int)).1, S.nx, updN S.C c y.2.2, S.Fr, zB S.m (addr c y) (clsz c)⟩, slc 174 5 (some ⟨hb, 0, none⟩) 256 256 (Hd.tabC (Hd.putR l (ob (c : Int) (addr c y) (ldW S.m f9 : Int))).1)]) := by
 refine fI Tryz.func16 Tryz.ntmps16 ?_
 intro F hF
 refine zz [77] ?_
 haveI : GVI F := ⟨hF⟩
 refine zz [0,1,4,4,2,0,1,6,3,5] ?_
 refine cl (coown_ok cb pb hb qb top S l ho h hh f9 g9 hg hfa hf8 hw) rfl PkL.p trivial ?_
 intro _ _
 refine zz [46,26,15,15,4,4,2,0,17,0,1,3,23,9,2,10,0,1,3,5] ?_
 refine cl (comay_ok (c : Int) (by have := cls_mem.1 hc; omega)) rfl (picked_nil _) trivial ?_
 intro _ _
 refine zz [46,64,20,32,74,117] ?_
 refine TL.known 32 rfl (c := false) (decide_eq_false (by omega)) ?_
 refine zz [22,22,108,19,9,2,10,42,0,1,6,3,3,5] ?_
 refine cl (coget_ok cb pb hb qb top S (ldW S.m f9 : Int) c hc hroom hq) rfl PkL.p GVI.gv ?_
 intro y hG
 refine zz [46,26,15,15,4,4,2,0,0,1,3,23,2,10,7,0,1,3,3,3,89,5] ?_
 refine al (l := [.int _ _, .int _ _, .int _ _]) rfl rfl ?_
 intro b5
 refine zz [21,48,2,0,0,1,6,76,3,5] ?_
 refine cl (cofound_ok cb pb hb qb l ho hr (c : Int) (addr c y) (ldW S.m f9 : Int) lim (by omega)) rfl PkL.p trivial ?_
 intro _ _
 refine zz [57,4,2,0,1,3,23,2,10,7,0,259,28,31,60,18,165,16] ?_
 refine cl (Hd.put_ok hb l (ob (c : Int) (addr c y) (ldW S.m f9 : Int)) ho) rfl PkL.p trivial ?_
 intro _ _
 refine zz [65,8,55,55,41,41,27,11] ?_
 exact Ret.i y [_, _] ⟨rfl, rfl, trivial⟩ rfl hG entS
theorem comk_fac (cb pb hb qb : Nat) (top : Nat) (S : PS) (l : List Hd.Pl) (ho : Hd.OkT l) (h : Int) (hh : 0 ≤ h ∧ h ≤ 4294967295) (f9 : Nat) (g9 : Int) (hg : Hd.getR l h = (ob 1 f9 g9, 0)) (hfa : f9 + 8 ≤ 1024 * 2 ^ top) (hf8 : f9 % 8 = 0) (hw : ldW S.m f9 < 2 ^ 63) (lim : Int) (hl0 : 0 ≤ lim) (hroom : (pgs S.C S.Fr).length < 2 ^ top) (hr : (Hd.allL l 0).length ≠ 0) (hq : (Qt.chargeQ S.Q (ldW S.m f9 : Int) (clsz 1 : Int)).2 = 0) (hnx : S.nx ≤ 1000000) (idn : Nat) (hqc : (Qt.carveQ (Qt.chargeQ S.Q (ldW S.m f9 : Int) (clsz 1 : Int)).1 S.nx (ldW S.m f9 : Int) lim).2.2 = ((idn : Int), 0)) (hid : idn ≤ 1000000) : FSpec Tryz.prog 16 [.pointer (some ⟨cb, 0, none⟩), .int .u32 h, .int .i64 1, .int .i64 lim] GV [pts cb 87 [.pointer (some ⟨pb, 0, none⟩), .pointer (some ⟨hb, 0, none⟩), .pointer (some ⟨qb, 0, none⟩)], isPl pb top S, slc 174 5 (some ⟨hb, 0, none⟩) 256 256 (Hd.tabC l)] (fun y : Nat × Nat × List Pg => .tuple #[.int .u32 (Hd.putR l (ob 1 (addr 1 y) (ldW S.m f9 : Int))).2.1, .int .i64 (Hd.putR l (ob 1 (addr 1 y) (ldW S.m f9 : Int))).2.2]) (fun y => GotP top S 1 y) (fun y => [pts cb 87 [.pointer (some ⟨pb, 0, none⟩), .pointer (some ⟨hb, 0, none⟩), .pointer (some ⟨qb, 0, none⟩)], isPl pb top ⟨(Qt.carveQ (Qt.chargeQ S.Q (ldW S.m f9 : Int) (clsz 1 : Int)).1 S.nx (ldW S.m f9 : Int) lim).1, (Qt.carveQ (Qt.chargeQ S.Q (ldW S.m f9 : Int) (clsz 1 : Int)).1 S.nx (ldW S.m f9 : Int) lim).2.1, updN S.C 1 y.2.2, S.Fr, stWs (zB S.m (addr 1 y) (clsz 1)) (addr 1 y) [idn]⟩, slc 174 5 (some ⟨hb, 0, none⟩) 256 256 (Hd.tabC (Hd.putR l (ob 1 (addr 1 y) (ldW S.m f9 : Int))).1)]) := by
 refine fI Tryz.func16 Tryz.ntmps16 ?_
 intro F hF
 refine zz [77] ?_
 haveI : GVI F := ⟨hF⟩
 refine zz [0,1,4,4,2,0,1,6,3,5] ?_
 refine cl (coown_ok cb pb hb qb top S l ho h hh f9 g9 hg hfa hf8 hw) rfl PkL.p trivial ?_
 intro _ _
 refine zz [46,26,15,15,4,4,2,0,17,0,1,3,23,9,2,10,0,1,3,5] ?_
 refine cl (comay_ok 1 (by omega)) rfl (picked_nil _) trivial ?_
 intro _ _
 refine zz [46,64,20,32,74,117] ?_
 refine TL.known 32 rfl (c := true) (decide_eq_true rfl) ?_
 refine zz [32,88,108,19,9,2] ?_
 refine TC.condD rfl (fun hc4 => absurd hc4 (by omega)) (fun hc4 => ?_)
 refine zz [42,0,1,6,3,3,5] ?_
 refine cl (coget_ok cb pb hb qb top S (ldW S.m f9 : Int) 1 (by decide) hroom hq) rfl PkL.p GVI.gv ?_
 intro y hG
 refine zz [46,26,15,15,4,4,2,0,0,1,3,23,2,10,7,0,1,3,3,3,89,5] ?_
 refine al (l := [.int _ _, .int _ _, .int _ _]) rfl rfl ?_
 intro b6
 refine zz [21,48,2,0,0,1,6,76,3] ?_
 have hnew : Plc 64 (updN S.C 1 y.2.2 1) (addr 1 y) := (hG.plc (by decide)).2 (.inr ⟨rfl, rfl⟩)
 have hbn := Plc.bd (hG.inv S.Q S.nx S.m) (c := 1) (by decide) hnew
 have e1 : clsz 1 = 64 := rfl
 rw [e1] at hbn
 refine e rfl ?_
 refine cl (cofound_fac cb pb hb qb top ⟨(Qt.chargeQ S.Q (ldW S.m f9 : Int) (clsz 1 : Int)).1, S.nx, updN S.C 1 y.2.2, S.Fr, zB S.m (addr 1 y) (clsz 1)⟩ l ho hr (addr 1 y) (ldW S.m f9 : Int) lim (by omega) (by omega) hnx idn hqc hid) rfl PkL.p trivial ?_
 intro _ _
 refine zz [57,4,2,0,1,3,23,2,10,7,0] ?_
 refine TC.draw _ [] [(0, false), (1, false), (2, false), (3, false), (4, false), (5, true), (6, false), (7, false), (8, false), (9, false)] (by kernel_rfl) (by kernel_rfl) (ent_take 0 rfl (ent_take 2 rfl (ent_nil _))) ?_
 refine zz [28,31,60,18,165,16] ?_
 refine cl (Hd.put_ok hb l (ob 1 (addr 1 y) (ldW S.m f9 : Int)) ho) rfl PkL.p trivial ?_
 intro _ _
 refine zz [65,8,55,55,41,41,27,11] ?_
 exact Ret.i y [_, _] ⟨rfl, rfl, trivial⟩ rfl hG entS
theorem comk_fr (cb pb hb qb : Nat) (top : Nat) (S : PS) (l : List Hd.Pl) (ho : Hd.OkT l) (h : Int) (hh : 0 ≤ h ∧ h ≤ 4294967295) (f9 : Nat) (g9 : Int) (hg : Hd.getR l h = (ob 1 f9 g9, 0)) (hfa : f9 + 8 ≤ 1024 * 2 ^ top) (hf8 : f9 % 8 = 0) (hw : ldW S.m f9 < 2 ^ 63) (lim : Int) (hroom : (pgs S.C S.Fr).length < 2 ^ top) (hr : (Hd.allL l 0).length ≠ 0) (hq : (Qt.chargeQ S.Q (ldW S.m f9 : Int) 1024).2 = 0) : FSpec Tryz.prog 16 [.pointer (some ⟨cb, 0, none⟩), .int .u32 h, .int .i64 8, .int .i64 lim] GV [pts cb 87 [.pointer (some ⟨pb, 0, none⟩), .pointer (some ⟨hb, 0, none⟩), .pointer (some ⟨qb, 0, none⟩)], isPl pb top S, slc 174 5 (some ⟨hb, 0, none⟩) 256 256 (Hd.tabC l)] (fun p : Nat => .tuple #[.int .u32 (Hd.putR l (ob 8 (p * 1024) (ldW S.m f9 : Int))).2.1, .int .i64 (Hd.putR l (ob 8 (p * 1024) (ldW S.m f9 : Int))).2.2]) (fun p => GotF top S p) (fun p => [pts cb 87 [.pointer (some ⟨pb, 0, none⟩), .pointer (some ⟨hb, 0, none⟩), .pointer (some ⟨qb, 0, none⟩)], isPl pb top ⟨(Qt.chargeQ S.Q (ldW S.m f9 : Int) 1024).1, S.nx, S.C, p :: S.Fr, zB S.m (p * 1024) 1024⟩, slc 174 5 (some ⟨hb, 0, none⟩) 256 256 (Hd.tabC (Hd.putR l (ob 8 (p * 1024) (ldW S.m f9 : Int))).1)]) := by
 refine fI Tryz.func16 Tryz.ntmps16 ?_
 intro F hF
 refine zz [77] ?_
 haveI : GVI F := ⟨hF⟩
 refine zz [0,1,4,4,2,0,1,6,3,5] ?_
 refine cl (coown_ok cb pb hb qb top S l ho h hh f9 g9 hg hfa hf8 hw) rfl PkL.p trivial ?_
 intro _ _
 refine zz [46,26,15,15,4,4,2,0,17,0,1,3,23,9,2,10,0,1,3,5] ?_
 refine cl (comay_ok 8 (by omega)) rfl (picked_nil _) trivial ?_
 intro _ _
 refine zz [46,64,20,32,74,117] ?_
 refine TL.known 32 rfl (c := false) (decide_eq_false (by omega)) ?_
 refine zz [22,22,108,19,9,2,10,42,0,1,6,3,3,5] ?_
 refine cl (cofr_ok cb pb hb qb top S (ldW S.m f9 : Int) hroom hq) rfl PkL.p GVI.gv ?_
 intro y hG
 refine zz [46,26,15,15,4,4,2,0,0,1,3,23,2,10,7,0,1,3,3,3,89,5] ?_
 refine al (l := [.int _ _, .int _ _, .int _ _]) rfl rfl ?_
 intro b7
 refine zz [21,48,2,0,0,1,6,76,3,5] ?_
 refine cl (cofound_ok cb pb hb qb l ho hr 8 (y * 1024) (ldW S.m f9 : Int) lim (by omega)) (congrArg (fun z : Int => [Value.pointer (some ⟨cb, 0, none⟩), .agg #[.int .i64 8, .int .i64 z, .int .i64 (ldW S.m f9 : Int)], .int .i64 lim]) (show (y : Int) * 1024 = ((y * 1024 : Nat) : Int) by simp)) PkL.p trivial ?_
 intro _ _
 refine zz [57,4,2,0,1,3,23,2,10,7,0,259,28,31,60,18,165,16] ?_
 refine cl (Hd.put_ok hb l (ob 8 (y * 1024) (ldW S.m f9 : Int)) ho) (congrArg (fun z : Int => [Value.pointer (some ⟨hb, 0, none⟩), .agg #[.int .i64 8, .int .i64 z, .int .i64 (ldW S.m f9 : Int)]]) (show (y : Int) * 1024 = ((y * 1024 : Nat) : Int) by simp)) PkL.p trivial ?_
 intro _ _
 refine zz [65,8,55,55,41,41,27,11] ?_
 exact Ret.i y [_, _] ⟨rfl, rfl, trivial⟩ rfl hG entS
theorem comk_no (cb pb hb qb : Nat) (top : Nat) (S : PS) (l : List Hd.Pl) (ho : Hd.OkT l) (h : Int) (hh : 0 ≤ h ∧ h ≤ 4294967295) (f9 : Nat) (g9 : Int) (hg : Hd.getR l h = (ob 1 f9 g9, 0)) (hfa : f9 + 8 ≤ 1024 * 2 ^ top) (hf8 : f9 % 8 = 0) (hw : ldW S.m f9 < 2 ^ 63) (c : Nat) (hc : c ∈ cls) (hc2 : c ≤ 5) (lim : Int) (hl0 : 0 ≤ lim) (hq : (Qt.chargeQ S.Q (ldW S.m f9 : Int) (clsz c : Int)).2 ≠ 0) : FSpec Tryz.prog 16 [.pointer (some ⟨cb, 0, none⟩), .int .u32 h, .int .i64 (c : Int), .int .i64 lim] GV [pts cb 87 [.pointer (some ⟨pb, 0, none⟩), .pointer (some ⟨hb, 0, none⟩), .pointer (some ⟨qb, 0, none⟩)], isPl pb top S, slc 174 5 (some ⟨hb, 0, none⟩) 256 256 (Hd.tabC l)] (fun _ : Unit => .tuple #[.int .u32 0, .int .i64 (Qt.chargeQ S.Q (ldW S.m f9 : Int) (clsz c : Int)).2]) (fun _ => True) (fun _ => [pts cb 87 [.pointer (some ⟨pb, 0, none⟩), .pointer (some ⟨hb, 0, none⟩), .pointer (some ⟨qb, 0, none⟩)], isPl pb top S, slc 174 5 (some ⟨hb, 0, none⟩) 256 256 (Hd.tabC l)]) := by
 refine fI Tryz.func16 Tryz.ntmps16 ?_
 intro F hF
 refine zz [77] ?_
 haveI : GVI F := ⟨hF⟩
 refine zz [0,1,4,4,2,0,1,6,3,5] ?_
 refine cl (coown_ok cb pb hb qb top S l ho h hh f9 g9 hg hfa hf8 hw) rfl PkL.p trivial ?_
 intro _ _
 refine zz [46,26,15,15,4,4,2,0,17,0,1,3,23,9,2,10,0,1,3,5] ?_
 refine cl (comay_ok (c : Int) (by have := cls_mem.1 hc; omega)) rfl (picked_nil _) trivial ?_
 intro _ _
 refine zz [46,64,20,32,74,117] ?_
 by_cases hc1 : c = 1
 ·refine TL.known 32 rfl (c := true) (decide_eq_true (by omega)) ?_
  refine zz [32,88,108,19,9,2] ?_
  refine TC.condD rfl (fun hc5 => absurd hc5 (by omega)) (fun hc5 => ?_)
  refine zz [42,0,1,6,3,3,5] ?_
  refine cl (coget_no cb pb hb qb top S (ldW S.m f9 : Int) c hc hq) rfl PkL.p GVI.gv ?_
  intro _ _
  refine zz [46,26,15,15,4,4,2,0,0,1,3,23,2] ?_
  refine TC.condD rfl (fun hc6 => ?_) (fun hc6 => absurd (hq) hc6)
  refine zz [0,1,3,4,4,2,51] ?_
  exact zc3
 ·refine TL.known 32 rfl (c := false) (decide_eq_false (by omega)) ?_
  refine zz [22,22,108,19,9,2,10,42,0,1,6,3,3,5] ?_
  refine cl (coget_no cb pb hb qb top S (ldW S.m f9 : Int) c hc hq) rfl PkL.p GVI.gv ?_
  intro _ _
  refine zz [46,26,15,15,4,4,2,0,0,1,3,23,2] ?_
  refine TC.condD rfl (fun hc7 => ?_) (fun hc7 => absurd (hq) hc7)
  refine zz [0,1,3,4,4,2,51] ?_
  exact zc3
theorem comk_nofr (cb pb hb qb : Nat) (top : Nat) (S : PS) (l : List Hd.Pl) (ho : Hd.OkT l) (h : Int) (hh : 0 ≤ h ∧ h ≤ 4294967295) (f9 : Nat) (g9 : Int) (hg : Hd.getR l h = (ob 1 f9 g9, 0)) (hfa : f9 + 8 ≤ 1024 * 2 ^ top) (hf8 : f9 % 8 = 0) (hw : ldW S.m f9 < 2 ^ 63) (lim : Int) (hq : (Qt.chargeQ S.Q (ldW S.m f9 : Int) 1024).2 ≠ 0) : FSpec Tryz.prog 16 [.pointer (some ⟨cb, 0, none⟩), .int .u32 h, .int .i64 8, .int .i64 lim] GV [pts cb 87 [.pointer (some ⟨pb, 0, none⟩), .pointer (some ⟨hb, 0, none⟩), .pointer (some ⟨qb, 0, none⟩)], isPl pb top S, slc 174 5 (some ⟨hb, 0, none⟩) 256 256 (Hd.tabC l)] (fun _ : Unit => .tuple #[.int .u32 0, .int .i64 (Qt.chargeQ S.Q (ldW S.m f9 : Int) 1024).2]) (fun _ => True) (fun _ => [pts cb 87 [.pointer (some ⟨pb, 0, none⟩), .pointer (some ⟨hb, 0, none⟩), .pointer (some ⟨qb, 0, none⟩)], isPl pb top S, slc 174 5 (some ⟨hb, 0, none⟩) 256 256 (Hd.tabC l)]) := by
 refine fI Tryz.func16 Tryz.ntmps16 ?_
 intro F hF
 refine zz [77] ?_
 haveI : GVI F := ⟨hF⟩
 refine zz [0,1,4,4,2,0,1,6,3,5] ?_
 refine cl (coown_ok cb pb hb qb top S l ho h hh f9 g9 hg hfa hf8 hw) rfl PkL.p trivial ?_
 intro _ _
 refine zz [46,26,15,15,4,4,2,0,17,0,1,3,23,9,2,10,0,1,3,5] ?_
 refine cl (comay_ok 8 (by omega)) rfl (picked_nil _) trivial ?_
 intro _ _
 refine zz [46,64,20,32,74,117] ?_
 refine TL.known 32 rfl (c := false) (decide_eq_false (by omega)) ?_
 refine zz [22,22,108,19,9,2,10,42,0,1,6,3,3,5] ?_
 refine cl (cofr_no cb pb hb qb top S (ldW S.m f9 : Int) hq) rfl PkL.p GVI.gv ?_
 intro _ _
 refine zz [46,26,15,15,4,4,2,0,0,1,3,23,2] ?_
 refine TC.condD rfl (fun hc8 => ?_) (fun hc8 => absurd (hq) hc8)
 refine zz [0,1,3,4,4,2,51] ?_
 exact zc3
def usd (C : Nat → List Pg) (c : Nat) : Nat := usedC (960 / clsz c) (C c)
structure Grow (S S' : PS) : Prop where
  plc : ∀ d a, d ∈ cls → Plc (clsz d) (S.C d) a → Plc (clsz d) (S'.C d) a
  keep : ∀ d a, d ∈ cls → d ≠ 2 → d ≠ 7 → Plc (clsz d) (S.C d) a → ∀ o, a ≤ o → o + 8 ≤ a + clsz d → ldW S'.m o = ldW S.m o
theorem Grow.trans {S T V : PS} (h : Grow S T) (k : Grow T V) : Grow S V :=
 ⟨fun d a hd hp => k.plc d a hd (h.plc d a hd hp), fun d a hd h2 h7 hp o h1 h3 => (k.keep d a hd h2 h7 (h.plc d a hd hp) o h1 h3).trans (h.keep d a hd h2 h7 hp o h1 h3)⟩
theorem PInv.re {top : Nat} {S S' : PS} (h : PInv top S) (hC : S'.C = S.C) (hF : S'.Fr = S.Fr) : PInv top S' := by
 obtain ⟨Q, nx, C, Fr, m⟩ := S
 obtain ⟨Q', nx', C', Fr', m'⟩ := S'
 dsimp only at hC hF
 subst hC; subst hF
 exact ⟨h.tp, h.ok, h.one, h.nd, h.lt⟩
theorem GotP.re {top : Nat} {S S' : PS} {c : Nat} {y : Nat × Nat × List Pg} (g : GotP top S c y) (hC : S'.C = updN S.C c y.2.2) (hF : S'.Fr = S.Fr) : PInv top S' := by
 obtain ⟨Q', nx', C', Fr', m'⟩ := S'
 dsimp only at hC hF
 subst hC; subst hF
 exact g.inv _ _ _
theorem GaveP.inv2 {top : Nat} {S S' : PS} {c pn i : Nat} {L' : List Pg} (g : GaveP top S c pn i L') (hC : S'.C = updN S.C c L') (hF : S'.Fr = S.Fr) : PInv top S' := by
 obtain ⟨Q', nx', C', Fr', m'⟩ := S'
 dsimp only at hC hF
 subst hC; subst hF
 exact g.inv _ _ _
theorem got_page {many pn i : Nat} {L L' : List Pg} (g : Got many L L' pn i) : ∃ (k : Nat) (f : Nat → Bool), L'[k]? = some ⟨pn, f⟩ ∧ f i = true := by
 cases g with
 | old A B f h1 h2 h3 h4 => exact ⟨A.length, flipB f i, by rw [h2]; simp, by rw [flipB_same, h3]; rfl⟩
 | new A B h1 h2 h3 h4 h5 h6 => exact ⟨A.length, fun j => decide (j = 0), by rw [h2]; simp, by rw [h3]; rfl⟩
theorem usd_got {top : Nat} {S : PS} {c : Nat} {y : Nat × Nat × List Pg} (hc : c ∈ cls) (g : GotP top S c y) (d : Nat) : usd (updN S.C c y.2.2) d = usd S.C d + if d = c then 1 else 0 := by
 rw [usd, usd]
 by_cases e : d = c
 ·subst e; rw [if_pos rfl, updN_same]; exact g.got.used (by have := clsz_many hc; omega)
 ·rw [if_neg e, updN_ne _ _ e, Nat.add_zero]
theorem usd_gave {top : Nat} {S : PS} (hP : PInv top S) {c pn i : Nat} {L' : List Pg} (hc : c ∈ cls) (g : GaveP top S c pn i L') (d : Nat) : usd (updN S.C c L') d + (if d = c then 1 else 0) = usd S.C d := by
 rw [usd, usd]
 by_cases e : d = c
 ·subst e; rw [if_pos rfl, updN_same]; exact g.gave.used (hP.ok d hc).inv
 ·rw [if_neg e, updN_ne _ _ e, Nat.add_zero]
theorem len_usd {top : Nat} {S : PS} (hP : PInv top S) {c n : Nat} (hc : c ∈ cls) (h : usd S.C c ≤ n) : (960 / clsz c) * (S.C c).length ≤ n + 960 / clsz c := by
 obtain ⟨q, hq⟩ := hP.one c hc
 have := len_one (hP.ok c hc).inv hq
 rw [usd] at h; omega
theorem pgs_len {top : Nat} {S : PS} (_ : PInv top S) : (pgs S.C S.Fr).length = (S.C 1).length + ((S.C 2).length + ((S.C 3).length + ((S.C 4).length + ((S.C 5).length + ((S.C 6).length + (S.C 7).length))))) + S.Fr.length := by
 rw [pgs, List.length_append]
 have : cls = [1, 2, 3, 4, 5, 6, 7] := rfl
 rw [this]
 simp only [List.flatMap_cons, List.flatMap_nil, List.length_append, List.length_nil, cpg, List.length_map, Nat.add_zero]
theorem room {top n : Nat} {S : PS} (hP : PInv top S) (h : ∀ c ∈ cls, usd S.C c ≤ n) (h8 : n ≤ 8 ∨ n ≤ 76 ∧ top = 7) (hF : S.Fr.length ≤ 40) (hF8 : n ≤ 8 → S.Fr.length ≤ 8) : (pgs S.C S.Fr).length < 2 ^ top := by
 rw [pgs_len hP]
 have a1 := len_usd hP (c := 1) (by decide) (h 1 (by decide))
 have a2 := len_usd hP (c := 2) (by decide) (h 2 (by decide))
 have a3 := len_usd hP (c := 3) (by decide) (h 3 (by decide))
 have a4 := len_usd hP (c := 4) (by decide) (h 4 (by decide))
 have a5 := len_usd hP (c := 5) (by decide) (h 5 (by decide))
 have a6 := len_usd hP (c := 6) (by decide) (h 6 (by decide))
 have a7 := len_usd hP (c := 7) (by decide) (h 7 (by decide))
 rw [show 960 / clsz 1 = 15 from rfl] at a1
 rw [show 960 / clsz 2 = 7 from rfl] at a2
 rw [show 960 / clsz 3 = 3 from rfl] at a3
 rw [show 960 / clsz 4 = 30 from rfl] at a4
 rw [show 960 / clsz 5 = 30 from rfl] at a5
 rw [show 960 / clsz 6 = 20 from rfl] at a6
 rw [show 960 / clsz 7 = 3 from rfl] at a7
 have ht : 2 ^ 6 ≤ 2 ^ top := Nat.pow_le_pow_right (by decide) hP.tp.1
 have e6 : 2 ^ 6 = 64 := rfl
 rcases h8 with h8 | ⟨h8, rfl⟩
 ·have := hF8 h8; omega
 ·have e7 : 2 ^ 7 = 128 := rfl
  omega
theorem TWord.got {top t c : Nat} {S : PS} {y : Nat × Nat × List Pg} (hP : PInv top S) (hT : TI top S t) (hc : c ∈ cls) (g : GotP top S c y) {o : Nat} (h : TWord S.m t o) : o + 8 ≤ addr c y ∨ addr c y + clsz c ≤ o := by
 have e2 : clsz 2 = 128 := rfl
 have e7 : clsz 7 = 256 := rfl
 rcases h with ⟨h1, h2⟩ | ⟨j, hj, h0, h1, h2⟩
 ·have := g.apart hP hc c2 hT.tk; omega
 ·have := g.apart hP hc c7 (hT.lf j hj h0); omega
theorem got_stp {top t c : Nat} {S S' : PS} {y : Nat × Nat × List Pg} (hP : PInv top S) (hT : TI top S t) (hc : c ∈ cls) (g : GotP top S c y) (hC : S'.C = updN S.C c y.2.2) (hF : S'.Fr = S.Fr) (hm : ∀ o, o + 8 ≤ addr c y ∨ addr c y + clsz c ≤ o → ldW S'.m o = ldW S.m o) :
 PInv top S' ∧ TI top S' t ∧ Grow S S' ∧ (∀ j, j < 16 → rtW S'.m t j = rtW S.m t j) ∧ ∀ r, r < 256 → enA S'.m t r = enA S.m t r ∧ enB S'.m t r = enB S.m t r := by
 have h1 : ∀ d a, Plc (clsz d) (S.C d) a → Plc (clsz d) (S'.C d) a := fun d a h => by rw [hC]; exact (g.plc hc).2 (.inl h)
 obtain ⟨k1, k2, k3⟩ := hT.keep (S' := S') (h1 2 t hT.tk) (fun j hj h0 => h1 7 _ (hT.lf j hj h0)) (fun o ho => hm o (ho.got hP hT hc g))
 exact ⟨g.re hC hF, k1, ⟨fun d a _ h => h1 d a h, fun d a hd _ _ h o ho1 ho2 => hm o (by have := g.apart hP hc hd h; omega)⟩, k2, k3⟩
theorem frm_stp {top t p : Nat} {S S' : PS} (hP : PInv top S) (hT : TI top S t) (g : GotF top S p) (hC : S'.C = S.C) (hF : S'.Fr = p :: S.Fr) (hm : ∀ o, o + 8 ≤ p * 1024 ∨ p * 1024 + 1024 ≤ o → ldW S'.m o = ldW S.m o) :
 PInv top S' ∧ TI top S' t ∧ Grow S S' ∧ (∀ j, j < 16 → rtW S'.m t j = rtW S.m t j) ∧ ∀ r, r < 256 → enA S'.m t r = enA S.m t r ∧ enB S'.m t r = enB S.m t r := by
 have hn : p ∉ cls.flatMap (cpg S.C) := fun h => g.new (List.mem_append.2 (.inl h))
 have e2 : clsz 2 = 128 := rfl
 have e7 : clsz 7 = 256 := rfl
 have hP' : PInv top S' := by
  obtain ⟨Q', nx', C', Fr', m'⟩ := S'
  dsimp only at hC hF
  subst hC; subst hF
  exact g.inv _ _ _
 have h1 : ∀ d a, Plc (clsz d) (S.C d) a → Plc (clsz d) (S'.C d) a := fun d a h => by rw [hC]; exact h
 obtain ⟨k1, k2, k3⟩ := hT.keep (S' := S') (h1 2 t hT.tk) (fun j hj h0 => h1 7 _ (hT.lf j hj h0)) (fun o ho => hm o (by
  rcases ho with ⟨h1, h2⟩ | ⟨j, hj, h0, h1, h2⟩
  ·have := Plc.frame hP c2 hT.tk hn; omega
  ·have := Plc.frame hP c7 (hT.lf j hj h0) hn; omega))
 exact ⟨hP', k1, ⟨fun d a _ h => h1 d a h, fun d a hd _ _ h o ho1 ho2 => hm o (by have := Plc.frame hP hd h hn; omega)⟩, k2, k3⟩
theorem old_stp {top t : Nat} {S S' : PS} (hP : PInv top S) (hT : TI top S t) {s a b : Nat} (hs : s < 256) (h0 : rtW S.m t (s / 16) ≠ 0) (hC : S'.C = S.C) (hm : S'.m = stWs S.m (rtW S.m t (s / 16) + s % 16 * 16) [a, b]) : Grow S S' :=
 ⟨fun d x _ h => by rw [hC]; exact h, fun d x hd h2 h7 h o ho1 ho2 => by
  have e7 : clsz 7 = 256 := rfl
  have := Plc.apart hP hd c7 h (hT.lf _ (by omega) h0) (.inl h7)
  rw [hm, w2_ne (by omega)]⟩
theorem new_stp {top t : Nat} {S S' : PS} (hP : PInv top S) (hT : TI top S t) {s a b : Nat} (hs : s < 256) {y : Nat × Nat × List Pg} (g : GotP top S 7 y) (hC : S'.C = updN S.C 7 y.2.2) (hm : S'.m = stWs (stWs (zB S.m (addr 7 y) 256) (t + s / 16 * 8) [addr 7 y]) (addr 7 y + s % 16 * 16) [a, b]) : Grow S S' :=
 ⟨fun d x _ h => by rw [hC]; exact (g.plc c7).2 (.inl h), fun d x hd h2 h7 h o ho1 ho2 => by
  have e7 : clsz 7 = 256 := rfl
  have e2 : clsz 2 = 128 := rfl
  have k1 := g.apart hP c7 hd h
  have k2 := Plc.apart hP hd c2 h hT.tk (.inl h2)
  rw [hm, w2_ne (by omega), w1_ne (by omega), ldW_zB_ne (by omega)]⟩
structure LayR (top t : Nat) (lim u : Int) (r : List Qt.Qn) (S : PS) (s a : Nat) (S' : PS) : Prop where
  P : PInv top S'
  T : TI top S' t
  G : Grow S S'
  nx : S'.nx = S.nx
  Fr : S'.Fr = S.Fr
  A : enA S'.m t s = a
  O : ∀ x, x < 256 → x ≠ s → enA S'.m t x = enA S.m t x ∧ enB S'.m t x = enB S.m t x
  U : ∀ d, usd S'.C d = usd S.C d + (if d = 6 then 1 else if d = 7 ∧ rtW S.m t (s / 16) = 0 then 1 else 0)
  Q : S'.Q = ⟨0, -1, lim, u + 48 + if rtW S.m t (s / 16) = 0 then 256 else 0⟩ :: r
  L : rtW S'.m t (s / 16) ≠ 0
  N : ∃ (k pn i : Nat) (f : Nat → Bool), (S'.C 6)[k]? = some ⟨pn, f⟩ ∧ f i = true ∧ enB S'.m t s = pn * 1024 + 64 + i * 48 ∧ OneAt (960 / clsz 6) (S'.C 6) pn ∧ ¬ Plc 48 (S.C 6) (enB S'.m t s)
  M : rtW S.m t (s / 16) = 0 → ∃ (k pn i : Nat) (f : Nat → Bool), (S'.C 7)[k]? = some ⟨pn, f⟩ ∧ f i = true ∧ rtW S'.m t (s / 16) = pn * 1024 + 64 + i * 256 ∧ OneAt (960 / clsz 7) (S'.C 7) pn ∧ ¬ Plc 256 (S.C 7) (rtW S'.m t (s / 16)) ∧ ∀ i, i < 16 → i ≠ s % 16 → ldW S'.m (rtW S'.m t (s / 16) + i * 16) = 0
  K : rtW S.m t (s / 16) ≠ 0 → ∃ i, i < 16 ∧ i ≠ s % 16 ∧ ldW S'.m (rtW S'.m t (s / 16) + i * 16) ≠ 0
theorem c6 : (6 : Nat) ∈ cls := by decide
theorem leaf_other {top t : Nat} {S : PS} (hT : TI top S t) {s : Nat} (hs : s < 256) (h0 : rtW S.m t (s / 16) ≠ 0) (hA : enA S.m t s = 0) : ∃ i, i < 16 ∧ i ≠ s % 16 ∧ ldW S.m (rtW S.m t (s / 16) + i * 16) ≠ 0 := by
 obtain ⟨i, hi, h1⟩ := hT.ne _ (by omega) h0
 rw [enA, if_neg h0] at hA
 exact ⟨i, hi, fun e => h1 (by rw [e]; exact hA), h1⟩
theorem lay_old {top t : Nat} {S S1 S' : PS} {lim u : Int} {r : List Qt.Qn} (hP : PInv top S) (hT : TI top S t) {s a : Nat} (hs : s < 256) (hA : enA S.m t s = 0) (ha : a < 2 ^ 64) (ha0 : a ≠ 0) {y : Nat × Nat × List Pg} (g : GotP top S 6 y)
 (e1 : S1 = ⟨⟨0, -1, lim, u + 48⟩ :: r, S.nx, updN S.C 6 y.2.2, S.Fr, zB S.m (addr 6 y) 48⟩) (h0 : rtW S.m t (s / 16) ≠ 0)
 (e2 : S' = ⟨S1.Q, S1.nx, S1.C, S1.Fr, stWs S1.m (rtW S1.m t (s / 16) + s % 16 * 16) [a, addr 6 y]⟩) : LayR top t lim u r S s a S' := by
 have e48 : clsz 6 = 48 := rfl
 have htp : 2 ^ top ≤ 128 := Nat.pow_le_pow_right (n := 2) (by decide) hP.tp.2
 obtain ⟨P1, T1, G1, R1, E1⟩ := got_stp (S' := S1) hP hT c6 g (by rw [e1]) (by rw [e1]) (fun o ho => by rw [e1]; exact ldW_zB_ne (by rw [e48] at ho; exact ho))
 have hq : s / 16 < 16 := by omega
 have h1 : rtW S1.m t (s / 16) ≠ 0 := by rw [R1 _ hq]; exact h0
 have hnew : Plc 48 (S1.C 6) (addr 6 y) := by rw [e1]; exact (g.plc c6 (d := 6)).2 (.inr ⟨rfl, rfl⟩)
 have hb := Plc.bd P1 c6 hnew
 rw [e48] at hb
 have C2 : S'.C = S1.C := by rw [e2]
 have m2 : S'.m = stWs S1.m (rtW S1.m t (s / 16) + s % 16 * 16) [a, addr 6 y] := by rw [e2]
 obtain ⟨T2, R2, A2, B2, O2⟩ := T1.setOld P1 hs h1 ha (b := addr 6 y) (by omega) (.inl ha0) C2 m2
 have hC6 : S'.C 6 = y.2.2 := by rw [C2, e1]; exact updN_same S.C 6 y.2.2
 obtain ⟨k, f, hk, hf⟩ := got_page g.got
 refine ⟨P1.re C2 (by rw [e2]), T2, G1.trans (old_stp P1 T1 hs h1 C2 m2), by rw [e2, e1], by rw [e2, e1], A2, fun x hx hne => ?_, fun d => ?_, ?_, ?_, ⟨k, y.1, y.2.1, f, by rw [hC6]; exact hk, hf, B2, by rw [hC6]; exact g.one, by rw [B2]; exact g.fresh hP c6⟩, fun h => absurd h h0, fun _ => ?_⟩
 ·rw [(O2 x hx hne).1, (O2 x hx hne).2]; exact E1 x hx
 ·rw [C2, e1]
  have := usd_got c6 g d
  rw [this, if_neg (show ¬ (d = 7 ∧ rtW S.m t (s / 16) = 0) from fun h => h0 h.2)]
 ·rw [e2, e1, if_neg h0, Int.add_zero]
 ·rw [R2 _ hq]; exact h1
 ·obtain ⟨i, hi, hne, h9⟩ := leaf_other hT hs h0 hA
  have hlb := hT.lf _ hq h0
  have := g.apart hP c6 c7 hlb
  have e7 : clsz 7 = 256 := rfl
  refine ⟨i, hi, hne, ?_⟩
  rw [R2 _ hq, m2, w2_ne (by omega), e1]
  dsimp only
  rw [ldW_zB_ne (by
   have hr : rtW S1.m t (s / 16) = rtW S.m t (s / 16) := R1 _ hq
   rw [e1] at hr; dsimp only at hr; rw [hr]; omega)]
  have hr : rtW S1.m t (s / 16) = rtW S.m t (s / 16) := R1 _ hq
  rw [e1] at hr; dsimp only at hr; rw [hr]; exact h9
theorem lay_new {top t : Nat} {S S1 S' : PS} {lim u : Int} {r : List Qt.Qn} (hP : PInv top S) (hT : TI top S t) {s a : Nat} (hs : s < 256) (ha : a < 2 ^ 64) (ha0 : a ≠ 0) {y z : Nat × Nat × List Pg} (g : GotP top S 6 y)
 (e1 : S1 = ⟨⟨0, -1, lim, u + 48⟩ :: r, S.nx, updN S.C 6 y.2.2, S.Fr, zB S.m (addr 6 y) 48⟩) (h0 : rtW S.m t (s / 16) = 0) (g2 : GotP top S1 7 z)
 (e2 : S' = ⟨⟨0, -1, lim, u + 48 + 256⟩ :: r, S1.nx, updN S1.C 7 z.2.2, S1.Fr, stWs (stWs (zB S1.m (addr 7 z) 256) (t + s / 16 * 8) [addr 7 z]) (addr 7 z + s % 16 * 16) [a, addr 6 y]⟩) : LayR top t lim u r S s a S' := by
 have e48 : clsz 6 = 48 := rfl
 have e256 : clsz 7 = 256 := rfl
 have htp : 2 ^ top ≤ 128 := Nat.pow_le_pow_right (n := 2) (by decide) hP.tp.2
 obtain ⟨P1, T1, G1, R1, E1⟩ := got_stp (S' := S1) hP hT c6 g (by rw [e1]) (by rw [e1]) (fun o ho => by rw [e1]; exact ldW_zB_ne (by rw [e48] at ho; exact ho))
 have hq : s / 16 < 16 := by omega
 have h1 : rtW S1.m t (s / 16) = 0 := by rw [R1 _ hq]; exact h0
 have hnew : Plc 48 (S1.C 6) (addr 6 y) := by rw [e1]; exact (g.plc c6 (d := 6)).2 (.inr ⟨rfl, rfl⟩)
 have hb := Plc.bd P1 c6 hnew
 rw [e48] at hb
 have C2 : S'.C = updN S1.C 7 z.2.2 := by rw [e2]
 have m2 : S'.m = stWs (stWs (zB S1.m (addr 7 z) 256) (t + s / 16 * 8) [addr 7 z]) (addr 7 z + s % 16 * 16) [a, addr 6 y] := by rw [e2]
 obtain ⟨T2, R2, R3, A2, B2, O2, Z2⟩ := T1.setNew P1 hs h1 ha (b := addr 6 y) (by omega) ha0 g2 C2 m2
 have hC7 : S'.C 7 = z.2.2 := by rw [C2]; exact updN_same _ _ _
 have hC6 : S'.C 6 = y.2.2 := by rw [C2, updN_ne _ _ (by decide), e1]; exact updN_same S.C 6 y.2.2
 have P2 : PInv top S' := g2.re C2 (by rw [e2])
 have hnew7 : Plc 256 (S'.C 7) (addr 7 z) := by rw [C2]; exact (g2.plc c7 (d := 7)).2 (.inr ⟨rfl, rfl⟩)
 have hb7 := Plc.bd P2 c7 hnew7
 obtain ⟨k, f, hk, hf⟩ := got_page g.got
 obtain ⟨k2, f2, hk2, hf2⟩ := got_page g2.got
 refine ⟨P2, T2, G1.trans (new_stp P1 T1 hs g2 C2 m2), by rw [e2, e1], by rw [e2, e1], A2, fun x hx hne => ?_, fun d => ?_, ?_, ?_, ⟨k, y.1, y.2.1, f, by rw [hC6]; exact hk, hf, B2, by rw [hC6]; exact g.one, by rw [B2]; exact g.fresh hP c6⟩, fun _ => ⟨k2, z.1, z.2.1, f2, by rw [hC7]; exact hk2, hf2, R2, by rw [hC7]; exact g2.one, ?_, fun i hi hne => by rw [R2]; exact Z2 i hi hne⟩, fun h => absurd h0 h⟩
 ·rw [(O2 x hx hne).1, (O2 x hx hne).2]; exact E1 x hx
 ·rw [C2, usd_got c7 g2 d, e1]
  have := usd_got c6 g d
  rw [this]
  by_cases e6 : d = 6
  ·subst e6; rw [if_pos rfl, if_pos rfl, if_neg (by decide)]
  ·rw [if_neg e6, if_neg e6]
   by_cases e7 : d = 7
   ·rw [if_pos e7, if_pos ⟨e7, h0⟩]
   ·rw [if_neg e7, if_neg (fun h => e7 h.1)]
 ·rw [e2, if_pos h0]
 ·rw [R2]; omega
 ·rw [R2]
  have := g2.fresh P1 c7
  rw [e1] at this
  dsimp only at this
  rw [updN_ne _ _ (by decide)] at this
  exact this
structure BackR (top t : Nat) (S S' : PS) : Prop where
  P : PInv top S'
  T : TI top S' t
  G : Grow S S'
  nx : S'.nx = S.nx
  Fr : S'.Fr = S.Fr
  O : ∀ x, x < 256 → enA S'.m t x = enA S.m t x ∧ (enA S.m t x ≠ 0 → enB S'.m t x = enB S.m t x)
  U : ∀ d, usd S'.C d = usd S.C d
  Q : S'.Q = S.Q
def packN (h r : Nat) : Nat := h + 1 + r * 4294967296
theorem packN_lt {h r : Nat} (hh : h < 4294967295) (hr : r ≤ 15) : packN h r < 2 ^ 64 ∧ packN h r ≠ 0 := by rw [packN]; omega
theorem packN_lo {h r : Nat} (hh : h < 4294967295) : packN h r &&& 4294967295 = h + 1 := by
 rw [show (4294967295 : Nat) = 2 ^ 32 - 1 from rfl, Nat.and_two_pow_sub_one_eq_mod, packN]; omega
theorem packN_hi {h r : Nat} (hh : h < 4294967295) : packN h r / 2 ^ 32 = r := by rw [packN]; omega
theorem packN_or {h r : Nat} (hh : h < 4294967295) : (h + 1) ||| (r * 4294967296) = packN h r := by
 have := Nat.two_pow_add_eq_or_of_lt (i := 32) (b := h + 1) (by omega) r
 rw [Nat.or_comm, show r * 4294967296 = 2 ^ 32 * r by omega, ← this, packN]; omega
theorem sppack_ok (h r : Nat) (hh : h < 4294967295) (hr : r ≤ 15) : FSpec Tryz.prog 95 [.agg #[.int .u32 (h : Int), .int .i64 (r : Int)]] noRd [] (fun _ : Unit => .int .u64 (packN h r : Int)) (fun _ => True) (fun _ => []) := by
 refine fI Tryz.func95 Tryz.ntmps95 ?_
 intro F _
 refine zz [37,0,1,5] ?_
 refine bx (v := .agg #[_, _]) (l := [.int _ _, .int _ _]) rfl rfl ?_
 intro b1
 refine zz [4,2,0,1,14,12] ?_
 refine q rfl rfl (conv .u32 .u64 rfl rfl rfl (wU (by omega))) ?_
 refine q rfl rfl (addU (b := 1) rfl rfl rfl (by omega)) ?_
 refine zz [47,12,131] ?_
 refine q rfl rfl (shlU (n := 32) (c := r * 4294967296) rfl rfl (by decide) (by omega)) ?_
 refine q rfl rfl (orU rfl rfl (by omega) (by omega) (packN_or hh)) ?_
 refine zz [4,2,11] ?_
 exact zc0
theorem sphas_ok (s : Nat) (hs : s < 256) : FSpec Tryz.prog 50 [.int .i64 (s : Int)] noRd [] (fun _ : Unit => .bool true) (fun _ => True) (fun _ => []) := by
 refine fI Tryz.func50 Tryz.ntmps50 ?_
 intro F _
 refine zz [37,0,1,9,2,0,1,3,111,20] ?_
 refine TL.known 5 rfl (c := true) (decide_eq_true (by omega)) ?_
 refine zz [32,88,19,9,2,11] ?_
 exact Ret.i () [_] ⟨rfl, trivial⟩ (congrArg Value.bool (decide_eq_true (by omega))) trivial (ent_take 0 rfl (ent_nil _))
theorem spright_ok (r : Nat) (hr : 0 < r ∧ r ≤ 15) : FSpec Tryz.prog 51 [.int .i64 (r : Int)] noRd [] (fun _ : Unit => .bool true) (fun _ => True) (fun _ => []) := by
 refine fI Tryz.func51 Tryz.ntmps51 ?_
 intro F _
 refine zz [37,0,1,9,2,0,1,3,107,20] ?_
 refine TL.known 5 rfl (c := true) (decide_eq_true (by omega)) ?_
 refine zz [32,150,19,9,2,11] ?_
 exact Ret.i () [_] ⟨rfl, trivial⟩ (congrArg Value.bool (decide_eq_true (by omega))) trivial (ent_take 0 rfl (ent_nil _))
theorem spcaps_ok (s : Nat) (b : Bool) (hcb : decide (s < 128) = b) : FSpec Tryz.prog 52 [.int .i64 (s : Int)] noRd [] (fun _ : Unit => .bool b) (fun _ => True) (fun _ => []) := by
 refine fI Tryz.func52 Tryz.ntmps52 ?_
 intro F _
 refine zz [37,0,1,9,2,0,1,3,38,9,2,11] ?_
 exact Ret.i () [_] ⟨rfl, trivial⟩ (congrArg Value.bool ((decide_eq_decide.2 (by omega)).trans hcb)) trivial (ent_take 0 rfl (ent_nil _))
theorem spmade_ok (k : Int) (h : k = 8 ∨ 1 ≤ k ∧ k ≤ 5) : FSpec Tryz.prog 97 [.int .i64 k] noRd [] (fun _ : Unit => .bool true) (fun _ => True) (fun _ => []) := by
 refine fI Tryz.func97 Tryz.ntmps97 ?_
 intro F _
 refine zz [37] ?_
 by_cases h8 : k = 8
 ·subst h8
  refine zz [0,1,9,2,0,1,3,30,20] ?_
  refine TL.known 5 rfl (c := true) (decide_eq_true (by omega)) ?_
  refine zz [22,22,22,129,129,22,19,9,2,11] ?_
  exact zc2
 ·refine zz [0,1,9,2,0,1,3,30,20] ?_
  refine TL.known 5 rfl (c := false) (decide_eq_false h8) ?_
  refine zz [32,139,117] ?_
  refine TL.known 8 rfl (c := true) (decide_eq_true (by omega)) ?_
  refine zz [32,150,108,19,9,2,11] ?_
  exact Ret.i () [_] ⟨rfl, trivial⟩ (congrArg Value.bool (decide_eq_true (by omega))) trivial (ent_take 0 rfl (ent_nil _))
theorem spobj_ok (sb cb fb : Nat) : FSpec Tryz.prog 30 [.pointer (some ⟨sb, 0, none⟩)] noRd [pts sb 117 [.pointer (some ⟨cb, 0, none⟩), .pointer (some ⟨fb, 0, none⟩)]] (fun _ : Unit => .pointer (some ⟨cb, 0, none⟩)) (fun _ => True) (fun _ => [pts sb 117 [.pointer (some ⟨cb, 0, none⟩), .pointer (some ⟨fb, 0, none⟩)]]) := by
 refine fI Tryz.func30 Tryz.ntmps30 ?_
 intro F _
 refine zz [39,0,1,24,2,0,0,1,6,34,2,10,7,0,1,6,13,14,12,24,2,11] ?_
 exact zc1
theorem spside_ok (sb fb cb pb hb qb top t : Nat) (S : PS) (l : List Hd.Pl) (ho : Hd.OkT l) (hg : Hd.getR l 1 = (ob 2 t 0, 0)) (hP : PInv top S) (hT : TI top S t) : FSpec Tryz.prog 47 [.pointer (some ⟨sb, 0, none⟩), .int .u32 1] GV [pts sb 117 [.pointer (some ⟨cb, 0, none⟩), .pointer (some ⟨fb, 0, none⟩)], pts cb 87 [.pointer (some ⟨pb, 0, none⟩), .pointer (some ⟨hb, 0, none⟩), .pointer (some ⟨qb, 0, none⟩)], isPl pb top S, slc 174 5 (some ⟨hb, 0, none⟩) 256 256 (Hd.tabC l)] (fun tb : Nat => .tuple #[.agg #[.pointer (some ⟨tb, 0, none⟩), .int .u32 1, .int .i64 0], .int .i64 0]) (fun _ => True) (fun tb => [pts sb 117 [.pointer (some ⟨cb, 0, none⟩), .pointer (some ⟨fb, 0, none⟩)], pts cb 87 [.pointer (some ⟨pb, 0, none⟩), .pointer (some ⟨hb, 0, none⟩), .pointer (some ⟨qb, 0, none⟩)], pts tb 285 [.pointer (some ⟨pb, 0, none⟩), .int .i64 0, .int .i64 (t : Int)], isPl pb top S, slc 174 5 (some ⟨hb, 0, none⟩) 256 256 (Hd.tabC l)]) := by
 refine fI Tryz.func47 Tryz.ntmps47 ?_
 intro F hF
 refine zz [95] ?_
 haveI : GVI F := ⟨hF⟩
 refine zz [0,1,5] ?_
 refine al (l := [.pointer _, .int _ _, .int _ _]) rfl rfl ?_
 intro b2
 refine zz [4,2,0,0,1,6,34,2,10,7,0,1,6,13,14,12,3,5] ?_
 refine cl (coof_ok cb pb hb qb l ho 1 (by omega) (ob 2 t 0) hg 2 (.inr rfl)) rfl PkL.p trivial ?_
 intro _ _
 refine zz [69,26,75,15,5] ?_
 refine al (l := [.int _ _, .int _ _, .int _ _]) rfl rfl ?_
 intro b3
 refine zz [21,48,4,2,0,0,1,3,23,2,10,7,0] ?_
 refine TC.draw _ [] [(0, false), (1, false), (2, false), (3, false), (5, false), (6, false), (7, false), (8, false), (10, false), (11, false), (12, false), (4, true), (9, true), (13, false), (14, true), (15, false)] (by kernel_rfl) (by kernel_rfl) (ent_take 0 rfl (ent_take 3 rfl (ent_nil _))) ?_
 refine zz [28,31,25,18,58,18,60,18,33,58,18,16] ?_
 refine cl (comem_ok cb pb hb qb) rfl PkL.p trivial ?_
 intro _ _
 refine zz [126,8,16] ?_
 refine cl (tat9_ok pb top 0 t S hP hT.tk) rfl PkL.p GVI.gv ?_
 intro tb _
 refine zz [100,8] ?_
 first | refine dq rfl rfl rfl (bld (cs := [.pointer _, .int _ _, .int _ _]) rfl) ?_ | refine dq rfl rfl rfl (bld (cs := [_, _, _]) rfl) ?_
 refine zz [61,48,8,41,27,11] ?_
 exact Ret.i tb [_, _] ⟨(rcN (n := 3) rfl rfl rfl rfl), rfl, trivial⟩ rfl trivial entS
def QR (lim u : Int) (r : List Qt.Qn) : Prop := (∀ x ∈ r, x.id ≠ 0) ∧ 0 ≤ u ∧ u + Qt.givQ r 0 + 1000 ≤ lim
theorem find0 (lim u : Int) (r : List Qt.Qn) : Qt.findQ (⟨0, -1, lim, u⟩ :: r) 0 = some ⟨0, -1, lim, u⟩ := by rw [Qt.findQ, List.find?_cons]; rfl
theorem giv0 (lim u : Int) (r : List Qt.Qn) : Qt.givQ (⟨0, -1, lim, u⟩ :: r) 0 = Qt.givQ r 0 := by
 rw [show (⟨0, -1, lim, u⟩ :: r : List Qt.Qn) = [⟨0, -1, lim, u⟩] ++ r from rfl, Qt.givQ_app, Qt.givQ_one, if_neg (show ¬ (-1 : Int) = 0 by decide), Int.zero_add]
theorem has0 (lim u : Int) (r : List Qt.Qn) : Qt.hasQ (⟨0, -1, lim, u⟩ :: r) 0 := ⟨_, List.mem_cons_self, rfl⟩
theorem set0 {lim u c : Int} {r : List Qt.Qn} (h : ∀ x ∈ r, x.id ≠ 0) : Qt.setQ (⟨0, -1, lim, u⟩ :: r) 0 c = ⟨0, -1, lim, c⟩ :: r := by
 rw [Qt.setQ, List.map_cons, if_pos rfl]
 congr 1
 refine (List.map_congr_left fun x hx => if_neg (h x hx)).trans (List.map_id' r)
theorem charge0 {lim u c : Int} {r : List Qt.Qn} (h : ∀ x ∈ r, x.id ≠ 0) (hc : 0 ≤ c) (hl : u + Qt.givQ r 0 + c ≤ lim) : Qt.chargeQ (⟨0, -1, lim, u⟩ :: r) 0 c = (⟨0, -1, lim, u + c⟩ :: r, 0) := by
 have e1 : Qt.limQ (⟨0, -1, lim, u⟩ :: r) 0 = lim := by rw [Qt.limQ, find0]
 have e2 : Qt.useQ (⟨0, -1, lim, u⟩ :: r) 0 = u + Qt.givQ r 0 := by rw [Qt.useQ, find0, giv0]
 have e3 : Qt.chgQ (⟨0, -1, lim, u⟩ :: r) 0 = u := by rw [Qt.chgQ, find0]
 rw [Qt.chargeQ, if_neg (fun h => h (has0 lim u r)), if_neg (by omega), e1, e2, e3, if_neg (by omega), set0 h]
theorem refund0 {lim u c : Int} {r : List Qt.Qn} (h : ∀ x ∈ r, x.id ≠ 0) (hc : 0 ≤ c) (hu : 0 ≤ u) : Qt.refundQ (⟨0, -1, lim, u + c⟩ :: r) 0 c = (⟨0, -1, lim, u⟩ :: r, 0) := by
 have e3 : Qt.chgQ (⟨0, -1, lim, u + c⟩ :: r) 0 = u + c := by rw [Qt.chgQ, find0]
 rw [Qt.refundQ, if_neg (fun h => h (has0 lim _ r)), e3, if_neg (by omega), set0 h, show u + c - c = u by omega]
def RmB (top : Nat) (Fr : List Nat) (n : Nat) : Prop := n ≤ 8 ∧ Fr.length ≤ 8 ∨ n ≤ 76 ∧ top = 7 ∧ Fr.length ≤ 40
theorem RmB.room {top n : Nat} {S : PS} (h : RmB top S.Fr n) (hP : PInv top S) (hu : ∀ c ∈ cls, usd S.C c ≤ n) : (pgs S.C S.Fr).length < 2 ^ top := by
 rcases h with h | h
 ·exact Go.Proofs.YtnlgmaibhlicjaaGreatDoor.room hP hu (.inl h.1) (by omega) (fun _ => h.2)
 ·by_cases h8 : n ≤ 8 ∧ ¬ S.Fr.length ≤ 8
  ·exact Go.Proofs.YtnlgmaibhlicjaaGreatDoor.room (n := 9) hP (fun c hc => by have := hu c hc; omega) (.inr ⟨by omega, h.2.1⟩) h.2.2 (fun h => absurd h (by decide))
  ·exact Go.Proofs.YtnlgmaibhlicjaaGreatDoor.room hP hu (.inr ⟨h.1, h.2.1⟩) h.2.2 (fun h9 => by omega)
theorem back_old {top t : Nat} {S S' S2 S3 : PS} {lim u : Int} {r : List Qt.Qn} {s a pn i : Nat} {L' : List Pg} (hs : s < 256) (hA : enA S.m t s = 0) (hQ : S.Q = ⟨0, -1, lim, u⟩ :: r) (hL : LayR top t lim u r S s a S') (h0 : rtW S.m t (s / 16) ≠ 0)
 (e1 : S2 = ⟨S'.Q, S'.nx, S'.C, S'.Fr, stWs S'.m (rtW S'.m t (s / 16) + s % 16 * 16) [0, 0]⟩) (hB : enB S'.m t s = pn * 1024 + 64 + i * 48) (hn : ¬ Plc 48 (S.C 6) (enB S'.m t s)) (g : GaveP top S2 6 pn i L')
 (e2 : S3 = ⟨⟨0, -1, lim, u⟩ :: r, S2.nx, updN S2.C 6 L', S2.Fr, S2.m⟩) : BackR top t S S3 := by
 have C2 : S2.C = S'.C := by rw [e1]
 have m2 : S2.m = stWs S'.m (rtW S'.m t (s / 16) + s % 16 * 16) [0, 0] := by rw [e1]
 have C3 : S3.C = updN S2.C 6 L' := by rw [e2]
 have m3 : S3.m = S2.m := by rw [e2]
 obtain ⟨T2, R2, A2, B2, O2⟩ := hL.T.setOld hL.P hs hL.L (by decide) (by decide) (.inr (hL.K h0)) C2 m2
 have P2 : PInv top S2 := hL.P.re C2 (by rw [e1])
 have P3 : PInv top S3 := g.inv2 C3 (by rw [e2])
 have G2 := old_stp hL.P hL.T hs hL.L C2 m2
 obtain ⟨T3, R3, E3⟩ := T2.keep (S' := S3) (by rw [C3, updN_ne _ _ (by decide)]; exact T2.tk) (fun j hj hj0 => by rw [C3, updN_ne _ _ (by decide)]; exact T2.lf j hj hj0) (fun o _ => by rw [m3])
 refine ⟨P3, T3, ⟨fun d x hd h => ?_, fun d x hd h2 h7 h o h1 h3 => ?_⟩, by rw [e2, e1]; exact hL.nx, by rw [e2, e1]; exact hL.Fr, fun x hx => ?_, fun d => ?_, by rw [e2, hQ]⟩
 ·rw [C3]
  refine g.plc P2 c6 (G2.plc d x hd (hL.G.plc d x hd h)) ?_
  by_cases e : d = 6
  ·subst e
   refine .inr fun e9 => hn ?_
   rw [hB, ← show x = pn * 1024 + 64 + i * 48 from e9]; exact h
  ·exact .inl e
 ·rw [m3, G2.keep d x hd h2 h7 (hL.G.plc d x hd h) o h1 h3, hL.G.keep d x hd h2 h7 h o h1 h3]
 ·by_cases e : x = s
  ·subst e; rw [(E3 x hx).1, A2, hA]; exact ⟨rfl, fun h => absurd rfl h⟩
  ·rw [(E3 x hx).1, (E3 x hx).2, (O2 x hx e).1, (O2 x hx e).2, (hL.O x hx e).1, (hL.O x hx e).2]; exact ⟨rfl, fun _ => rfl⟩
 ·have u1 := usd_gave P2 c6 g d
  have u2 := hL.U d
  rw [C3]
  rw [C2] at u1 ⊢
  rw [if_neg (show ¬ (d = 7 ∧ rtW S.m t (s / 16) = 0) from fun h => h0 h.2)] at u2
  by_cases e : d = 6
  ·rw [if_pos e] at u1 u2; omega
  ·rw [if_neg e] at u1 u2; omega
theorem back_new {top t : Nat} {S S' S2 S3 : PS} {lim u : Int} {r : List Qt.Qn} {s a pn i pn7 i7 : Nat} {L7 L' : List Pg} (hs : s < 256) (hA : enA S.m t s = 0) (hQ : S.Q = ⟨0, -1, lim, u⟩ :: r) (hL : LayR top t lim u r S s a S') (h0 : rtW S.m t (s / 16) = 0)
 (h7 : rtW S'.m t (s / 16) = pn7 * 1024 + 64 + i7 * 256) (hn7 : ¬ Plc 256 (S.C 7) (rtW S'.m t (s / 16))) (hz : ∀ i, i < 16 → i ≠ s % 16 → ldW S'.m (rtW S'.m t (s / 16) + i * 16) = 0) (g7 : GaveP top S' 7 pn7 i7 L7)
 {Q2 : List Qt.Qn} (e1 : S2 = ⟨Q2, S'.nx, updN S'.C 7 L7, S'.Fr, stWs (stWs S'.m (rtW S'.m t (s / 16) + s % 16 * 16) [0, 0]) (t + s / 16 * 8) [0]⟩) (hB : enB S'.m t s = pn * 1024 + 64 + i * 48) (hn : ¬ Plc 48 (S.C 6) (enB S'.m t s)) (g : GaveP top S2 6 pn i L')
 (e2 : S3 = ⟨⟨0, -1, lim, u⟩ :: r, S2.nx, updN S2.C 6 L', S2.Fr, S2.m⟩) : BackR top t S S3 := by
 have C2 : S2.C = updN S'.C 7 L7 := by rw [e1]
 have m2 : S2.m = stWs (stWs S'.m (rtW S'.m t (s / 16) + s % 16 * 16) [0, 0]) (t + s / 16 * 8) [0] := by rw [e1]
 have C3 : S3.C = updN S2.C 6 L' := by rw [e2]
 have m3 : S3.m = S2.m := by rw [e2]
 obtain ⟨T2, R2, R4, A2, O2⟩ := hL.T.clearGone hL.P hs hL.L hz h7 g7 C2 m2
 have P2 : PInv top S2 := g7.inv2 C2 (by rw [e1])
 have P3 : PInv top S3 := g.inv2 C3 (by rw [e2])
 obtain ⟨T3, R3, E3⟩ := T2.keep (S' := S3) (by rw [C3, updN_ne _ _ (by decide)]; exact T2.tk) (fun j hj hj0 => by rw [C3, updN_ne _ _ (by decide)]; exact T2.lf j hj hj0) (fun o _ => by rw [m3])
 have hpl : ∀ d x, d ∈ cls → Plc (clsz d) (S.C d) x → Plc (clsz d) (S2.C d) x := fun d x hd h => by
  rw [C2]
  refine g7.plc hL.P c7 (hL.G.plc d x hd h) ?_
  by_cases e : d = 7
  ·subst e
   refine .inr fun e9 => hn7 ?_
   rw [h7, ← show x = pn7 * 1024 + 64 + i7 * 256 from e9]; exact h
  ·exact .inl e
 refine ⟨P3, T3, ⟨fun d x hd h => ?_, fun d x hd h2 h77 h o h1 h3 => ?_⟩, by rw [e2, e1]; exact hL.nx, by rw [e2, e1]; exact hL.Fr, fun x hx => ?_, fun d => ?_, by rw [e2, hQ]⟩
 ·rw [C3]
  refine g.plc P2 c6 (hpl d x hd h) ?_
  by_cases e : d = 6
  ·subst e
   refine .inr fun e9 => hn ?_
   rw [hB, ← show x = pn * 1024 + 64 + i * 48 from e9]; exact h
  ·exact .inl e
 ·have q1 := hL.G.plc d x hd h
  have k1 := Plc.apart hL.P hd c7 q1 (hL.T.lf _ (by omega) hL.L) (.inl h77)
  have k2 := Plc.apart hL.P hd c2 q1 hL.T.tk (.inl h2)
  have e7 : clsz 7 = 256 := rfl
  have ee2 : clsz 2 = 128 := rfl
  rw [m3, m2, w1_ne (by omega), w2_ne (by omega), hL.G.keep d x hd h2 h77 h o h1 h3]
 ·by_cases e : x = s
  ·subst e; rw [(E3 x hx).1, A2, hA]; exact ⟨rfl, fun h => absurd rfl h⟩
  ·rw [(E3 x hx).1, (E3 x hx).2, (O2 x hx e).1, (hL.O x hx e).1]
   refine ⟨rfl, fun h => ?_⟩
   rw [(O2 x hx e).2 (by rw [(hL.O x hx e).1]; exact h), (hL.O x hx e).2]
 ·have u1 := usd_gave P2 c6 g d
  have u3 := usd_gave hL.P c7 g7 d
  have u2 := hL.U d
  rw [C3]
  rw [C2] at u1 ⊢
  by_cases e : d = 6
  ·subst e
   rw [if_pos rfl] at u1 u2
   rw [if_neg (by decide)] at u3
   omega
  ·rw [if_neg e] at u1 u2
   by_cases e7 : d = 7
   ·rw [if_pos ⟨e7, h0⟩] at u2; rw [if_pos e7] at u3; omega
   ·rw [if_neg (fun h => e7 h.1)] at u2; rw [if_neg e7] at u3; omega
theorem spcap_no (tb pb top t : Nat) (S : PS) (hP : PInv top S) (hT : TI top S t) (s : Nat) (hs : s < 256) (hA : enA S.m t s = 0) : FSpec Tryz.prog 49 [.agg #[.pointer (some ⟨tb, 0, none⟩), .int .u32 1, .int .i64 0], .int .i64 (s : Int)] noRd [pts tb 285 [.pointer (some ⟨pb, 0, none⟩), .int .i64 0, .int .i64 (t : Int)], isPl pb top S] (fun _ : Unit => .tuple #[.agg #[.int .u32 0, .int .i64 0], .bool false]) (fun _ => True) (fun _ => [pts tb 285 [.pointer (some ⟨pb, 0, none⟩), .int .i64 0, .int .i64 (t : Int)], isPl pb top S]) := by
 refine fI Tryz.func49 Tryz.ntmps49 ?_
 intro F _
 refine zz [44,0,1,5] ?_
 refine bx (v := .agg #[_, _, _]) (l := [.pointer _, .int _ _, .int _ _]) rfl rfl ?_
 intro b1
 refine e rfl ?_
 refine al (l := [.int _ _, .int _ _]) rfl rfl ?_
 intro b2
 refine zz [9,2,0,1,14,12,3,5] ?_
 refine cl (tget_ok tb pb top 0 t S hP hT s hs) rfl PkL.p trivial ?_
 intro _ _
 refine zz [57] ?_
 rw [hA]
 refine zz [26,15,15,4,4,2,0,0,1,3,30,2,40,0,1,73,21,67,9,2,51] ?_
 exact zc4
theorem spcap_ok (tb pb top t : Nat) (S : PS) (hP : PInv top S) (hT : TI top S t) (s : Nat) (hs : s < 256) (h r : Nat) (hh : h < 4294967295) (hr : r ≤ 15) (hA : enA S.m t s = packN h r) : FSpec Tryz.prog 49 [.agg #[.pointer (some ⟨tb, 0, none⟩), .int .u32 1, .int .i64 0], .int .i64 (s : Int)] noRd [pts tb 285 [.pointer (some ⟨pb, 0, none⟩), .int .i64 0, .int .i64 (t : Int)], isPl pb top S] (fun _ : Unit => .tuple #[.agg #[.int .u32 (h : Int), .int .i64 (r : Int)], .bool true]) (fun _ => True) (fun _ => [pts tb 285 [.pointer (some ⟨pb, 0, none⟩), .int .i64 0, .int .i64 (t : Int)], isPl pb top S]) := by
 refine fI Tryz.func49 Tryz.ntmps49 ?_
 intro F _
 refine zz [44,0,1,5] ?_
 refine bx (v := .agg #[_, _, _]) (l := [.pointer _, .int _ _, .int _ _]) rfl rfl ?_
 intro b3
 refine e rfl ?_
 refine al (l := [.int _ _, .int _ _]) rfl rfl ?_
 intro b4
 refine zz [9,2,0,1,14,12,3,5] ?_
 refine cl (tget_ok tb pb top 0 t S hP hT s hs) rfl PkL.p trivial ?_
 intro _ _
 refine zz [57] ?_
 rw [hA]
 refine zz [26,15,15,4,4,2,0,0,1,3,30,2] ?_
 have hpk := packN_lt hh hr
 refine TC.condD rfl (fun hc1 => absurd hc1 (by omega)) (fun hc1 => ?_)
 refine zz [7,0,1,3] ?_
 refine q rfl rfl (andU (b := 4294967295) rfl rfl hpk.1 (by decide) (packN_lo hh)) ?_
 refine q rfl rfl (conv .u64 .u32 rfl rfl rfl (wu32 (by omega) (by omega))) ?_
 refine q rfl rfl (OQ.to (v := (h : Int)) (sub rfl rfl (wu32 (by omega) (by omega))) (by omega)) ?_
 refine zz [3] ?_
 refine q rfl rfl (shrU (n := 32) rfl rfl hpk.1 (packN_hi hh)) ?_
 refine zz [188,73,21,67,9,2,11] ?_
 exact zc4
theorem splay_ok (sb fb cb pb hb qb tb top t : Nat) (lim u : Int) (r0 : List Qt.Qn) (S : PS) (hP : PInv top S) (hT : TI top S t) (s : Nat) (hs : s < 256) (hA : enA S.m t s = 0) (hQ : S.Q = ⟨0, -1, lim, u⟩ :: r0) (hq : QR lim u r0) (n : Nat) (hU : ∀ c ∈ cls, usd S.C c ≤ n) (hR : RmB top S.Fr (n + 1)) (h r : Nat) (hh : h < 4294967295) (hr : r ≤ 15) : FSpec Tryz.prog 53 [.pointer (some ⟨sb, 0, none⟩), .agg #[.pointer (some ⟨tb, 0, none⟩), .int .u32 1, .int .i64 0], .int .i64 (s : Int), .agg #[.int .u32 (h : Int), .int .i64 (r : Int)]] GV [pts sb 117 [.pointer (some ⟨cb, 0, none⟩), .pointer (some ⟨fb, 0, none⟩)], pts cb 87 [.pointer (some ⟨pb, 0, none⟩), .pointer (some ⟨hb, 0, none⟩), .pointer (some ⟨qb, 0, none⟩)], pts tb 285 [.pointer (some ⟨pb, 0, none⟩), .int .i64 0, .int .i64 (t : Int)], isPl pb top S] (fun _ : PS => .int .i64 0) (fun y => LayR top t lim u r0 S s (packN h r) y) (fun y => [pts sb 117 [.pointer (some ⟨cb, 0, none⟩), .pointer (some ⟨fb, 0, none⟩)], pts cb 87 [.pointer (some ⟨pb, 0, none⟩), .pointer (some ⟨hb, 0, none⟩), .pointer (some ⟨qb, 0, none⟩)], pts tb 285 [.pointer (some ⟨pb, 0, none⟩), .int .i64 0, .int .i64 (t : Int)], isPl pb top y]) := by
 refine fI Tryz.func53 Tryz.ntmps53 ?_
 intro F hF
 refine zz [95] ?_
 haveI : GVI F := ⟨hF⟩
 have htp : 2 ^ top ≤ 128 := Nat.pow_le_pow_right (n := 2) (by decide) hP.tp.2
 have e6 : clsz 6 = 48 := rfl
 have e7 : clsz 7 = 256 := rfl
 have hpk := packN_lt hh hr
 have hU1 : ∀ c ∈ cls, usd S.C c ≤ n + 1 := fun c hc => Nat.le_succ_of_le (hU c hc)
 have hroom := hR.room hP hU1
 have hc1 : Qt.chargeQ S.Q 0 (clsz 6 : Int) = (⟨0, -1, lim, u + 48⟩ :: r0, 0) := by
  rw [hQ, e6]; exact charge0 hq.1 (by decide) (by have := hq.2; omega)
 have hc2 : Qt.chargeQ (⟨0, -1, lim, u + 48⟩ :: r0) 0 (clsz 7 : Int) = (⟨0, -1, lim, u + 48 + 256⟩ :: r0, 0) := by
  rw [e7]; exact charge0 hq.1 (by decide) (by have := hq.2; omega)
 refine zz [0,1,5] ?_
 refine bx (v := .agg #[_, _, _]) (l := [.pointer _, .int _ _, .int _ _]) rfl rfl ?_
 intro b1
 refine e rfl ?_
 refine bx (v := .agg #[_, _]) (l := [.int _ _, .int _ _]) rfl rfl ?_
 intro b2
 refine zz [4,2,0] ?_
 refine TC.draw _ [] [(0, false), (1, false), (2, false), (3, false), (5, false), (6, false), (4, true), (7, true), (8, false), (9, false), (10, false), (11, false), (12, false)] (by kernel_rfl) (by kernel_rfl) (ent_take 1 rfl (ent_take 1 rfl (ent_nil _))) ?_
 refine zz [28,31,25,18,58,18,16] ?_
 refine cl (comem_ok cb pb hb qb) rfl PkL.p trivial ?_
 intro _ _
 refine zz [126,8,16] ?_
 refine cl (plget_ok pb top S 0 6 c6 hroom (by rw [hc1])) rfl PkL.p GVI.gv ?_
 intro y hG
 refine zz [126,8] ?_
 rw [hc1, show y.1 * 1024 + 64 + y.2.1 * clsz 6 = addr 6 y from rfl, e6]
 dsimp only
 obtain ⟨S1, e1⟩ : ∃ S1 : PS, S1 = ⟨⟨0, -1, lim, u + 48⟩ :: r0, S.nx, updN S.C 6 y.2.2, S.Fr, zB S.m (addr 6 y) 48⟩ := ⟨_, rfl⟩
 rw [← e1]
 obtain ⟨P1, T1, G1, R1, E1⟩ := got_stp (S' := S1) hP hT c6 hG (by rw [e1]) (by rw [e1]) (fun o ho => by rw [e1]; exact ldW_zB_ne ho)
 have hnew : Plc 48 (S1.C 6) (addr 6 y) := by rw [e1]; exact (hG.plc c6 (d := 6)).2 (.inr ⟨rfl, rfl⟩)
 have hb := Plc.bd P1 c6 hnew
 rw [e6] at hb
 have hx : ∀ c ∈ cls, usd S1.C c ≤ n + 1 := fun c hc => by
  rw [e1, show usd (updN S.C 6 y.2.2) c = _ from usd_got c6 hG c]
  have := hU c hc
  split <;> omega
 have hroom1 := (show RmB top S1.Fr (n + 1) by rw [e1]; exact hR).room P1 hx
 have hQ1 : S1.Q = ⟨0, -1, lim, u + 48⟩ :: r0 := by rw [e1]
 refine zz [83,55,55,41,41,27,0,0,1,3,23,2,10,7,0,0] ?_
 refine TC.draw _ [] [(0, false), (1, false), (2, false), (3, false), (5, false), (6, false), (4, true), (7, true), (8, false)] (by kernel_rfl) (by kernel_rfl) (ent_take 2 rfl (ent_take 2 rfl (ent_nil _))) ?_
 refine zz [25,18,33,103,33] ?_
 refine dq rfl rfl rfl (conv .i64 .u64 rfl rfl rfl (wU (by omega))) ?_
 refine de rfl rfl ?_
 refine cl (sppack_ok h r hh hr) rfl (picked_nil _) trivial ?_
 intro _ _
 refine zz [126,8] ?_
 by_cases h0 : rtW S.m t (s / 16) = 0
 ·have h1 : rtW S1.m t (s / 16) = 0 := by rw [R1 _ (by omega)]; exact h0
  refine de rfl rfl ?_
  refine cl (tset_new tb pb top 0 t S1 P1 T1 s hs (packN h r) (addr 6 y) hpk.1 (by omega) hpk.2 h1 hroom1 (by rw [hQ1, hc2])) rfl PkL.p GVI.gv ?_
  intro z hz
  refine zz [126,8] ?_
  rw [hQ1, hc2]
  dsimp only
  refine zz [41,27,0,1,3,23,2,10,7,0,1,3,4,2,11] ?_
  exact Ret.i ⟨⟨0, -1, lim, u + 48 + 256⟩ :: r0, S1.nx, updN S1.C 7 z.2.2, S1.Fr, stWs (stWs (zB S1.m (addr 7 z) 256) (t + s / 16 * 8) [addr 7 z]) (addr 7 z + s % 16 * 16) [packN h r, addr 6 y]⟩ [_] ⟨rfl, trivial⟩ rfl (lay_new hP hT hs hpk.1 hpk.2 hG e1 h0 hz rfl) entS
 ·have h1 : rtW S1.m t (s / 16) ≠ 0 := by rw [R1 _ (by omega)]; exact h0
  refine de rfl rfl ?_
  refine cl (tset_old tb pb top 0 t S1 P1 T1 s hs (packN h r) (addr 6 y) hpk.1 (by omega) hpk.2 h1) rfl PkL.p trivial ?_
  intro _ _
  refine zz [126,8,41,27,0,1,3,23,2,10,7,0,1,3,4,2,11] ?_
  exact Ret.i ⟨S1.Q, S1.nx, S1.C, S1.Fr, stWs S1.m (rtW S1.m t (s / 16) + s % 16 * 16) [packN h r, addr 6 y]⟩ [_] ⟨rfl, trivial⟩ rfl (lay_old hP hT hs hA hpk.1 hpk.2 hG e1 h0 rfl) entS
theorem spbare_ok (sb fb cb pb hb qb tb top t : Nat) (lim u : Int) (r0 : List Qt.Qn) (S : PS) (S' : PS) (hP : PInv top S) (hT : TI top S t) (s : Nat) (hs : s < 256) (hA : enA S.m t s = 0) (hQ : S.Q = ⟨0, -1, lim, u⟩ :: r0) (hq : QR lim u r0) (a : Nat) (ha0 : a ≠ 0) (hL : LayR top t lim u r0 S s a S') : FSpec Tryz.prog 98 [.pointer (some ⟨sb, 0, none⟩), .agg #[.pointer (some ⟨tb, 0, none⟩), .int .u32 1, .int .i64 0], .int .i64 (s : Int)] GV [pts sb 117 [.pointer (some ⟨cb, 0, none⟩), .pointer (some ⟨fb, 0, none⟩)], pts cb 87 [.pointer (some ⟨pb, 0, none⟩), .pointer (some ⟨hb, 0, none⟩), .pointer (some ⟨qb, 0, none⟩)], pts tb 285 [.pointer (some ⟨pb, 0, none⟩), .int .i64 0, .int .i64 (t : Int)], isPl pb top S'] (fun _ : PS => .tuple #[]) (fun y => BackR top t S y) (fun y => [pts sb 117 [.pointer (some ⟨cb, 0, none⟩), .pointer (some ⟨fb, 0, none⟩)], pts cb 87 [.pointer (some ⟨pb, 0, none⟩), .pointer (some ⟨hb, 0, none⟩), .pointer (some ⟨qb, 0, none⟩)], pts tb 285 [.pointer (some ⟨pb, 0, none⟩), .int .i64 0, .int .i64 (t : Int)], isPl pb top y]) := by
 refine fI Tryz.func98 Tryz.ntmps98 ?_
 intro F hF
 refine zz [95] ?_
 haveI : GVI F := ⟨hF⟩
 have htp : 2 ^ top ≤ 128 := Nat.pow_le_pow_right (n := 2) (by decide) hP.tp.2
 have e6 : clsz 6 = 48 := rfl
 have e7 : clsz 7 = 256 := rfl
 obtain ⟨k, pn, i, f, hk, hf, hB, hone, hnew⟩ := hL.N
 have hpl : Plc 48 (S'.C 6) (pn * 1024 + 64 + i * 48) := ⟨_, List.mem_of_getElem? hk, i, hf, rfl⟩
 have hbd := Plc.bd hL.P c6 hpl
 rw [e6] at hbd
 have hAa : enA S'.m t s ≠ 0 := by rw [hL.A]; exact ha0
 have hr1 : Qt.refundQ (⟨0, -1, lim, u + 48⟩ :: r0) 0 (clsz 6 : Int) = (⟨0, -1, lim, u⟩ :: r0, 0) := by
  rw [e6]; exact refund0 hq.1 (by decide) hq.2.1
 have hr2 : Qt.refundQ (⟨0, -1, lim, u + 48 + 256⟩ :: r0) 0 (clsz 7 : Int) = (⟨0, -1, lim, u + 48⟩ :: r0, 0) := by
  rw [e7]; exact refund0 hq.1 (by decide) (by have := hq.2.1; omega)
 refine zz [0,1,5] ?_
 refine bx (v := .agg #[_, _, _]) (l := [.pointer _, .int _ _, .int _ _]) rfl rfl ?_
 intro b3
 refine zz [2,0,1,14,12,3,5] ?_
 refine cl (tget_ok tb pb top 0 t S' hL.P hL.T s hs) rfl PkL.p trivial ?_
 intro _ _
 refine zz [69] ?_
 rw [hB]
 refine zz [26,15,15,4,4,2,0,1,14,12,3] ?_
 by_cases h0 : rtW S.m t (s / 16) = 0
 ·obtain ⟨k7, pn7, i7, f7, hk7, hf7, hl7, hone7, hnew7, hz⟩ := hL.M h0
  have hQ2 := hL.Q
  rw [if_pos h0] at hQ2
  refine e rfl ?_
  refine cl (tclear_gone tb pb top 0 t S' hL.P hL.T s hs hL.L hAa k7 pn7 i7 f7 hk7 hf7 hl7 hz hone7 (by rw [hQ2, hr2])) rfl PkL.p GVI.gv ?_
  intro L7 g7
  refine zz [69] ?_
  rw [hQ2, hr2]
  dsimp only
  obtain ⟨S2, e1⟩ : ∃ S2 : PS, S2 = ⟨⟨0, -1, lim, u + 48⟩ :: r0, S'.nx, updN S'.C 7 L7, S'.Fr, stWs (stWs S'.m (rtW S'.m t (s / 16) + s % 16 * 16) [0, 0]) (t + s / 16 * 8) [0]⟩ := ⟨_, rfl⟩
  rw [← e1]
  have hC6 : S2.C 6 = S'.C 6 := by rw [e1]; exact updN_ne S'.C L7 (show (6 : Nat) ≠ 7 by decide)
  rw [← hC6] at hk hone
  have hQ3 : S2.Q = ⟨0, -1, lim, u + 48⟩ :: r0 := by rw [e1]
  refine zz [2,260,28,31,25,18,58,18,33,192,16] ?_
  refine cl (comem_ok cb pb hb qb) rfl PkL.p trivial ?_
  intro _ _
  refine zz [99,8,16] ?_
  refine cl (plput_ok pb top S2 6 c6 k pn i f hk hf 0 (by rw [hQ3, hr1]) hone) rfl PkL.p GVI.gv ?_
  intro L' hG
  refine zz [99,8] ?_
  rw [hQ3, hr1]
  dsimp only
  refine TD.nil ?_
  exact Ret.n ⟨⟨0, -1, lim, u⟩ :: r0, S2.nx, updN S2.C 6 L', S2.Fr, S2.m⟩ [] trivial rfl (back_new hs hA hQ hL h0 hl7 hnew7 hz g7 e1 hB hnew hG rfl) entS
 ·have hQ2 := hL.Q
  rw [if_neg h0, Int.add_zero] at hQ2
  refine e rfl ?_
  refine cl (tclear_stay tb pb top 0 t S' hL.P hL.T s hs hL.L hAa (hL.K h0)) rfl PkL.p GVI.gv ?_
  intro _ _
  refine zz [69] ?_
  obtain ⟨S2, e1⟩ : ∃ S2 : PS, S2 = ⟨S'.Q, S'.nx, S'.C, S'.Fr, stWs S'.m (rtW S'.m t (s / 16) + s % 16 * 16) [0, 0]⟩ := ⟨_, rfl⟩
  rw [← e1]
  have hC6 : S2.C 6 = S'.C 6 := by rw [e1]
  rw [← hC6] at hk hone
  have hQ3 : S2.Q = ⟨0, -1, lim, u + 48⟩ :: r0 := by rw [e1]; exact hQ2
  refine zz [2,260,28,31,25,18,58,18,33,192,16] ?_
  refine cl (comem_ok cb pb hb qb) rfl PkL.p trivial ?_
  intro _ _
  refine zz [99,8,16] ?_
  refine cl (plput_ok pb top S2 6 c6 k pn i f hk hf 0 (by rw [hQ3, hr1]) hone) rfl PkL.p GVI.gv ?_
  intro L' hG
  refine zz [99,8] ?_
  rw [hQ3, hr1]
  dsimp only
  refine TD.nil ?_
  exact Ret.n ⟨⟨0, -1, lim, u⟩ :: r0, S2.nx, updN S2.C 6 L', S2.Fr, S2.m⟩ [] trivial rfl (back_old hs hA hQ hL h0 e1 hB hnew hG rfl) entS
end Go.Proofs.YtnlgmaibhlicjaaGreatDoor
namespace Go.Proofs.YtnlgmaibhlicjaaGreatDoor.Fo
open Go Go.QM
theorem ints_take1 (xs : List Int) (k : Nat) : (ints xs).take (k * 1) = ints (xs.take k) := by simp [ints, List.map_take]
theorem ints_splice1 {xs : List Int} {i : Nat} (h : i < xs.length) {o : Nat} (ho : o = i * 1) (v : Int) : splice o [.int .i64 v] (ints xs) = ints (xs.set i v) := by
 rw [ho, Nat.mul_one, List.set_eq_take_append_cons_drop, if_pos h]
 simp [splice, ints]
theorem ints_app1 (xs ys : List Int) : ints xs ++ ints ys = ints (xs ++ ys) := by simp [ints]
def notP (pr : Int → Bool) : Int → Bool := fun x => !pr x
structure DelI (xs : List Int) (pr : Int → Bool) (i j : Nat) (ys : List Int) : Prop where
  len : ys.length = xs.length
  ij : i < j
  jn : j ≤ xs.length
  tk : ys.take i = (xs.take j).filter (notP pr)
  dr : ys.drop j = xs.drop j
theorem DelI.start {xs : List Int} {pr : Int → Bool} {k : Nat} (h : xs.findIdx? pr = some k) : DelI xs pr k (k + 1) xs := by
 rw [List.findIdx?_eq_some_iff_getElem] at h
 obtain ⟨hk, hp, hn⟩ := h
 refine ⟨rfl, by omega, hk, ?_, rfl⟩
 rw [List.take_add_one, List.getElem?_eq_getElem hk, List.filter_append]
 have h1 : (xs.take k).filter (notP pr) = xs.take k := List.filter_eq_self.2 fun x hx => by
  obtain ⟨j, hj, rfl⟩ := List.getElem_of_mem hx
  rw [List.length_take] at hj
  have := hn j (by omega)
  rw [List.getElem_take]; simpa [notP] using this
 rw [h1]; simp [notP, hp]
theorem DelI.keep {xs : List Int} {pr : Int → Bool} {i j : Nat} {ys : List Int} (h : DelI xs pr i j ys) (hj : j < xs.length) {x : Int} (hx : xs[j]? = some x) (hp : pr x = false) : DelI xs pr (i + 1) (j + 1) (ys.set i x) where
 len := by rw [List.length_set]; exact h.len
 ij := by have := h.ij; omega
 jn := hj
 tk := by
  have hl := h.len; have hij := h.ij
  rw [List.take_add_one, List.getElem?_set_self (by omega), List.take_add_one, hx, List.filter_append, ← h.tk]
  rw [List.take_set_of_le (Nat.le_refl i)]
  simp [notP, hp]
 dr := by
  have hij := h.ij
  rw [List.drop_set_of_lt (by omega)]
  rw [← List.drop_drop, h.dr, List.drop_drop]
theorem DelI.skip {xs : List Int} {pr : Int → Bool} {i j : Nat} {ys : List Int} (h : DelI xs pr i j ys) (hj : j < xs.length) {x : Int} (hx : xs[j]? = some x) (hp : pr x = true) : DelI xs pr i (j + 1) ys where
 len := h.len
 ij := by have := h.ij; omega
 jn := hj
 tk := by rw [List.take_add_one, hx, List.filter_append, h.tk]; simp [notP, hp]
 dr := by rw [← List.drop_drop, h.dr, List.drop_drop]
theorem DelI.get {xs : List Int} {pr : Int → Bool} {i j : Nat} {ys : List Int} (h : DelI xs pr i j ys) {x : Int} (hx : xs[j]? = some x) : ys[j]? = some x := by
 have h1 : (ys.drop j)[0]? = (xs.drop j)[0]? := by rw [h.dr]
 rw [List.getElem?_drop, List.getElem?_drop] at h1
 exact h1.trans hx
theorem DelI.done {xs : List Int} {pr : Int → Bool} {i : Nat} {ys : List Int} (h : DelI xs pr i xs.length ys) : ys.take i = xs.filter (notP pr) ∧ (xs.filter (notP pr)).length = i := by
 have h1 := h.tk
 rw [List.take_length] at h1
 refine ⟨h1, ?_⟩
 rw [← h1, List.length_take]
 have := h.len; have := h.ij; omega
theorem del_none {xs : List Int} {pr : Int → Bool} (h : xs.findIdx? pr = none) : xs.filter (notP pr) = xs := by
 rw [List.findIdx?_eq_none_iff] at h
 exact List.filter_eq_self.2 fun x hx => by simp [notP, h x hx]
theorem indexI_ok (ad : Option Addr) (cap : Nat) (xs : List Int) (fc : FuncId) (lb : List Value) (pr : Int → Bool) (rdc : HP → Prop) (hclo : ∀ x, FSpec Tryz.prog fc ([.int .i64 x] ++ lb) rdc [] (fun _ : Unit => .bool (pr x)) (fun _ => True) (fun _ => [])) (hl : xs.length ≤ 1000000000) : FSpec Tryz.prog 320 [.slice ad xs.length cap, .func (.func fc) #[] lb.toArray] (fun F => (∃ E, RdS F E ad (ints xs)) ∧ rdc (sepL [F])) [] (fun _ : Unit => .int .i64 (match xs.findIdx? pr with | some i => (i : Int) | none => -1)) (fun _ => True) (fun _ => []) := by
 refine fI Tryz.func320 Tryz.ntmps320 ?_
 intro F ⟨⟨E, hF⟩, hFc⟩
 refine zz [37] ?_
 haveI : RdSI F ad E (ints xs) := ⟨hF⟩
 refine zz [0,1,4,2,0,0,1,29,91,3,2,17] ?_
 refine TC.loop (ι := Nat) (fun i => i ≤ xs.length ∧ ∀ j t, j < i → xs[j]? = some t → pr t = false) (fun i => [(0, .slice ad xs.length cap), (1, .func (.func fc) #[] lb.toArray), (7, .int .i64 xs.length), (8, .int .i64 i)]) (fun i => sepL [F]) (fun i => xs.length - i) 0 ⟨Nat.zero_le _, by intro j t h; omega⟩ ⟨rfl, rfl, rfl, rfl, trivial⟩ (ent_take 0 rfl (ent_nil _)) ?_
 rintro k ⟨hinv, hno⟩ ρ0
 dsimp only [updL] at hinv hno ⊢
 refine zz [0,1,38,2,0] ?_
 first | refine TC.condD rfl (fun hlt => ?_) (fun hlt => ?_) | refine TC.cond rfl (fun hlt => ?_) (fun hlt => ?_)
 ·have hlt : k < xs.length := by omega
  obtain ⟨t, hk⟩ : ∃ t, xs[k]? = some t := ⟨xs[k], List.getElem?_eq_getElem hlt⟩
  have hil : 0 < (ints xs).length := by rw [ints_length]; omega
  refine zz [7,0,17,0,1,3,4,2,0,1] ?_
  refine q rfl rfl (mv (v := .func (.func fc) #[] lb.toArray) rfl) ?_
  refine zz [29,3,81] ?_
  first | refine q rfl rfl (ld rfl rfl rfl) ?_ | refine q rfl rfl (ldS rfl rfl (ints_get hk)) ?_ | refine q rfl rfl (ldS rfl rfl rfl) ?_
  refine e rfl ?_
  refine clC (hclo t) rfl rfl (picked_nil _) hFc ?_
  intro _ _
  refine zz [98,2] ?_
  cases hpr : pr t with
  | true => ?_
  | false => ?_
  ·refine zz [40,0,1,3,4,2,143] ?_
   have hf : xs.findIdx? pr = some k := findIdx_at hk hpr hno
   exact Ret.i () [_] ⟨rfl, trivial⟩ (by rw [hf]; rfl) trivial entS
  ·refine zz [10,42,1,36,3,2] ?_
   exact ⟨rfl, (k + 1), ⟨by omega, fun j u hj hu => by rcases Nat.lt_succ_iff_lt_or_eq.1 hj with h | h; exact hno j u h hu; subst h; rw [hk] at hu; cases hu; exact hpr⟩, (by omega), ⟨rfl, rfl, rfl, rfl, trivial⟩, (ent_take 0 rfl (ent_nil _))⟩
 ·obtain rfl : k = xs.length := by omega
  have hf : xs.findIdx? pr = none := findIdx_no hno
  refine zz [50,0,1,4,2,11] ?_
  exact Ret.i () [_] ⟨rfl, trivial⟩ (by rw [hf]; rfl) trivial (ent_take 0 rfl (ent_nil _))
theorem deleteI_ok (ad : Option Addr) (cap : Nat) (xs : List Int) (fc : FuncId) (lb : List Value) (pr : Int → Bool) (rdc : HP → Prop) (hclo : ∀ x, FSpec Tryz.prog fc ([.int .i64 x] ++ lb) rdc [] (fun _ : Unit => .bool (pr x)) (fun _ => True) (fun _ => [])) (hl : xs.length ≤ 1000000000) (hm1 : ∀ F, rdc F → rdc (sepL [F])) (hm2 : ∀ B F, rdc F → rdc (sepL [B, F])) : FSpec Tryz.prog 296 [.slice ad xs.length cap, .func (.func fc) #[] lb.toArray] rdc [slc 3 1 ad xs.length cap (ints xs)] (fun _ : Unit => .slice ad (xs.filter (notP pr)).length cap) (fun _ => True) (fun _ => [slc 3 1 ad (xs.filter (notP pr)).length cap (ints (xs.filter (notP pr)))]) := by
 refine fI Tryz.func296 Tryz.ntmps296 ?_
 intro F hFc
 refine zz [39] ?_
 refine TC.factSlc 0 rfl (fun _ hcap _ => ?_)
 have hxl := ints_length xs
 refine zz [0,1,35,2,0,1,29] ?_
 refine q rfl rfl (mv (v := .func (.func fc) #[] lb.toArray) rfl) ?_
 refine e rfl ?_
 refine cl (indexI_ok ad cap xs fc lb pr rdc hclo hl) rfl (picked_nil _) ⟨⟨_, RdSI.rd⟩, hm1 _ (hm2 _ _ hFc)⟩ ?_
 intro _ _
 refine zz [66] ?_
 cases hf : xs.findIdx? pr with
 | none => ?_
 | some k => ?_
 ·dsimp only
  rw [del_none hf]
  refine zz [4,2,0,0,1,3,30,2] ?_
  refine TC.condD rfl (fun hc1 => ?_) (fun hc1 => absurd (rfl) hc1)
  refine zz [0,1,29,35,2,51] ?_
  exact zc1
 ·dsimp only
  have hD := DelI.start hf
  have hkn : k < xs.length := by have := hD.jn; omega
  refine zz [4,2,0,0,1,3,30,2] ?_
  refine TC.condD rfl (fun hc2 => absurd hc2 (by omega)) (fun hc2 => ?_)
  refine zz [7,0,0,1,3,36,4,2,17] ?_
  refine TC.loop (ι := Nat × Nat × List Int) (fun s => DelI xs pr s.1 s.2.1 s.2.2) (fun s => [(0, .slice ad xs.length cap), (1, .func (.func fc) #[] lb.toArray), (5, .int .i64 ((s.1 : Nat) : Int)), (6, .int .i64 ((s.2.1 : Nat) : Int))]) (fun s => sepL [slc 3 1 ad xs.length cap (ints s.2.2), F]) (fun s => xs.length - s.2.1) ⟨k, k + 1, xs⟩ hD ⟨rfl, rfl, rfl, rfl, trivial⟩ (ent_take 0 rfl (ent_take 0 rfl (ent_nil _))) ?_
  rintro ⟨i, j, ys⟩ hI ρ0
  dsimp only [updL] at hI ⊢
  have hj0 := hI.jn
  have hij := hI.ij
  have hyl := hI.len
  have hyi := ints_length ys
  refine zz [0,0,1,3,29,91,38,2] ?_
  first | refine TC.condD rfl (fun hlt => ?_) (fun hlt => ?_) | refine TC.cond rfl (fun hlt => ?_) (fun hlt => ?_)
  ·have hlt2 : j < xs.length := by omega
   obtain ⟨x, hx⟩ : ∃ x, xs[j]? = some x := ⟨xs[j], List.getElem?_eq_getElem hlt2⟩
   have hxy := hI.get hx
   have hpos : 0 < (ints ys).length := by omega
   refine zz [7,0,17,0,1,29,3,81] ?_
   first | refine q rfl rfl (ld rfl rfl rfl) ?_ | refine q rfl rfl (ldS rfl rfl (ints_get hxy)) ?_ | refine q rfl rfl (ldS rfl rfl rfl) ?_
   refine zz [4,2,0,1] ?_
   refine q rfl rfl (mv (v := .func (.func fc) #[] lb.toArray) rfl) ?_
   refine zz [3,5] ?_
   refine clC (hclo x) rfl rfl (picked_nil _) (hm2 _ _ hFc) ?_
   intro _ _
   refine zz [66,64,2] ?_
   cases hpr : pr x with
   | true => ?_
   | false => ?_
   ·refine zz [10,42,1,3,36,4,2] ?_
    exact ⟨rfl, ⟨i, j + 1, ys⟩, (hI.skip hlt2 hx hpr), (by dsimp only; omega), ⟨rfl, rfl, rfl, rfl, trivial⟩, (ent_take 0 rfl (ent_take 0 rfl (ent_nil _)))⟩
   ·refine zz [40,0,1,29,3,3,81,21] ?_
    first | refine st (v := .int _ _) (vs := [_]) 1 rfl rfl rfl rfl rfl rfl (Nat.le_of_ble_eq_true rfl) rfl ?_ | refine stS (v := .int _ _) (vs := [_]) 1 rfl rfl rfl rfl rfl rfl (by decide) (by omega) (ints_splice1 (i := i) (by omega) (by omega) _) ?_
    refine zz [2,1,3,36,4,63,1,3,36,4,2] ?_
    exact ⟨rfl, ⟨i + 1, j + 1, ys.set i x⟩, (hI.keep hlt2 hx hpr), (by dsimp only; omega), ⟨rfl, rfl, rfl, rfl, trivial⟩, (ent_take 0 rfl (ent_take 0 rfl (ent_nil _)))⟩
  ·obtain rfl : j = xs.length := by omega
   obtain ⟨d1, d2⟩ := hI.done
   refine zz [50,0,1,29,3] ?_
   refine q rfl rfl (slFn 3 1 (i) rfl rfl rfl (by omega) (by omega)) ?_
   refine e0 ?_
   refine clr (sz := 1) (z := .int .i64 0) i rfl rfl rfl rfl (by decide) rfl rfl (by omega) ?_
   intro cs1 hc1 hc2
   have hc3 : cs1.take (i * 1) = ints (xs.filter (notP pr)) := by rw [hc2, ints_take1, d1]
   refine zz [2,0,1,29,3] ?_
   refine q rfl rfl (slTn 3 1 (i) rfl rfl rfl (by omega) (by omega)) ?_
   refine zz [35,2,11] ?_
   exact Ret.i () [_] ⟨rfl, trivial⟩ (by rw [d2]; rfl) trivial (ent_takeW 0 rfl (by have := slc_to (E := 3) (sz := 1) (ad := ad) (n := xs.length) (cap := cap) (cs := cs1) (j := i) (by omega); rw [hc3] at this; rw [d2]; exact this) (ent_take 0 rfl (ent_nil _)))
structure Fn where
  id : Int
  par : Int
  sp : Int
  sl : Int
def spN (t : Fn) : Int × Int := (t.sp, t.sl)
def kidsN (L : List Fn) (p : Int) : List Int := (L.filter fun t => decide (t.par = p ∧ p ≠ 0)).map (·.id)
def hasN (L : List Fn) (id : Int) : Prop := ∃ t ∈ L, t.id = id
instance (L : List Fn) (id : Int) : Decidable (hasN L id) := inferInstanceAs (Decidable (∃ t ∈ L, t.id = id))
def fN (A : Int → Nat) (L : List Fn) : Int → Option Value := fun id => if hasN L id then some (.pointer (some ⟨A id, 0, none⟩)) else none
def hasO (L : List Fn) (o : Int × Int) : Prop := ∃ t ∈ L, spN t = o
instance (L : List Fn) (o : Int × Int) : Decidable (hasO L o) := inferInstanceAs (Decidable (∃ t ∈ L, spN t = o))
def findO (L : List Fn) (o : Int × Int) : Int := match L.find? fun t => decide (spN t = o) with
  | some t => t.id
  | none => 0
def fO (L : List Fn) : Int × Int → Option Value := fun o => if hasO L o then some (.int .i64 (findO L o)) else none
def NdN (L : List Fn) : Prop := (L.map (·.id)).Nodup
def NdO (L : List Fn) : Prop := (L.map spN).Nodup
structure WI (L : List Fn) (last : Int) : Prop where
  nd : NdN L
  no : NdO L
  rg : ∀ t ∈ L, 1 ≤ t.id ∧ t.id ≤ last ∧ 0 ≤ t.par ∧ t.par < t.id
  len : (L.length : Int) ≤ last
structure FRep where
  ad : Int → Option Addr
  cap : Int → Nat
  mb : Nat
  ob : Nat
abbrev nP (A : Int → Nat) (ad : Int → Option Addr) (cap : Int → Nat) (L : List Fn) (t : Fn) : HP := pts (A t.id) 218 [.int .i64 t.sp, .int .i64 t.sl, .int .i64 t.par, .slice (ad t.id) (kidsN L t.id).length (cap t.id)]
abbrev kP (ad : Int → Option Addr) (cap : Int → Nat) (L : List Fn) (t : Fn) : HP := slc 3 1 (ad t.id) (kidsN L t.id).length (cap t.id) (ints (kidsN L t.id))
abbrev hdF (mb ob : Nat) (last : Int) : List Value := [.map (some mb), .map (some ob), .int .i64 last]
def isFa (b : Nat) (A : Int → Nat) (L : List Fn) (last : Int) : HP := EX fun y : FRep => pure' (WI L last) (sepL [pts b 192 (hdF y.mb y.ob last), mapF QM.encI y.mb (fN A L) L.length, mapF enc2 y.ob (fO L) L.length, bigS (nP A y.ad y.cap L) L, bigS (kP y.ad y.cap L) L])
def isF (b : Nat) (L : List Fn) (last : Int) : HP := EX fun A : Int → Nat => pure' True (sepL [isFa b A L last])
theorem NdN.perm {S T : List Fn} (h : NdN S) (p : T.Perm S) : NdN T := (p.map _).nodup_iff.2 h
theorem NdN.inj {S : List Fn} (h : NdN S) {t u : Fn} (ht : t ∈ S) (hu : u ∈ S) (e : t.id = u.id) : t = u := by
 obtain ⟨L, hL⟩ := perm_mem ht
 rcases List.mem_cons.1 (hL.mem_iff.1 hu) with h1 | h1
 ·exact h1.symm
 ·exact absurd (List.mem_map.2 ⟨u, h1, e.symm⟩) (List.nodup_cons.1 (h.perm hL.symm)).1
theorem NdO.inj {S : List Fn} (h : NdO S) {t u : Fn} (ht : t ∈ S) (hu : u ∈ S) (e : spN t = spN u) : t = u := by
 obtain ⟨L, hL⟩ := perm_mem ht
 rcases List.mem_cons.1 (hL.mem_iff.1 hu) with h1 | h1
 ·exact h1.symm
 ·exact absurd (List.mem_map.2 ⟨u, h1, e.symm⟩) (List.nodup_cons.1 ((hL.symm.map _).nodup_iff.2 h)).1
def offN (S : List Fn) (id : Int) : List Fn := S.filter fun t => decide (t.id ≠ id)
theorem offN_perm {S L : List Fn} {t : Fn} (h : NdN S) (hL : S.Perm (t :: L)) : (offN S t.id).Perm L := by
 have h1 := hL.filter fun u => decide (u.id ≠ t.id)
 rw [List.filter_cons_of_neg (by simp)] at h1
 have h2 : L.filter (fun u => decide (u.id ≠ t.id)) = L := List.filter_eq_self.2 fun u hu => by
  have := (List.nodup_cons.1 (h.perm hL.symm)).1
  simp only [decide_eq_true_eq]
  exact fun e => this (List.mem_map.2 ⟨u, hu, e⟩)
 rw [h2] at h1; exact h1
theorem offN_mem {S : List Fn} {x : Int} {t : Fn} : t ∈ offN S x ↔ t ∈ S ∧ t.id ≠ x := by simp [offN]
theorem offN_has {S : List Fn} {x y : Int} : hasN (offN S x) y ↔ hasN S y ∧ y ≠ x := by
 constructor
 ·rintro ⟨t, ht, rfl⟩
  exact ⟨⟨t, (offN_mem.1 ht).1, rfl⟩, (offN_mem.1 ht).2⟩
 ·rintro ⟨⟨t, ht, rfl⟩, h⟩
  exact ⟨t, offN_mem.2 ⟨ht, h⟩, rfl⟩
theorem offN_len {S : List Fn} (hn : NdN S) {t : Fn} (ht : t ∈ S) : (offN S t.id).length + 1 = S.length := by
 obtain ⟨L, hL⟩ := perm_mem ht
 rw [(offN_perm hn hL).length_eq, hL.length_eq]; rfl
theorem fN_yes {A : Int → Nat} {S : List Fn} {id : Int} (h : hasN S id) : fN A S id = some (.pointer (some ⟨A id, 0, none⟩)) := if_pos h
theorem fN_no {A : Int → Nat} {S : List Fn} {id : Int} (h : ¬ hasN S id) : fN A S id = none := if_neg h
theorem fN_congr {A : Int → Nat} {S T : List Fn} (h : ∀ x, hasN T x ↔ hasN S x) : fN A T = fN A S := by
 funext x; simp only [fN, h x]
theorem fN_add {A : Int → Nat} {S : List Fn} {t : Fn} (b : Nat) : fN (updI A t.id b) (S ++ [t]) = updF (fN A S) t.id (.pointer (some ⟨b, 0, none⟩)) := by
 funext x
 simp only [fN, updF]
 have hh : hasN (S ++ [t]) x ↔ hasN S x ∨ t.id = x := by simp [hasN, or_and_right, exists_or]
 by_cases e : x = t.id
 ·rw [if_pos (hh.2 (.inr e.symm)), if_pos e, e, updI_same]
 ·rw [if_neg e, updI_ne e]
  by_cases h : hasN S x
  ·rw [if_pos (hh.2 (.inl h)), if_pos h]
  ·rw [if_neg (fun h2 => (hh.1 h2).elim h (fun e2 => e e2.symm)), if_neg h]
theorem fN_off {A : Int → Nat} {S : List Fn} (x : Int) : fN A (offN S x) = delF (fN A S) x := by
 funext y
 simp only [fN, delF]
 by_cases e : y = x
 ·rw [if_pos e, if_neg (fun h => (offN_has.1 h).2 e)]
 ·rw [if_neg e]
  by_cases h : hasN S y
  ·rw [if_pos h, if_pos (offN_has.2 ⟨h, e⟩)]
  ·rw [if_neg h, if_neg (fun h2 => h (offN_has.1 h2).1)]
theorem findO_yes {S : List Fn} (h : NdO S) {t : Fn} (ht : t ∈ S) : findO S (spN t) = t.id := by
 rw [findO]
 cases hf : S.find? fun u => decide (spN u = spN t) with
 | none => rw [List.find?_eq_none] at hf; exact absurd (decide_eq_true rfl) (hf t ht)
 | some u =>
  have h1 := List.find?_some hf
  have h2 := List.mem_of_find?_eq_some hf
  rw [h.inj h2 ht (by simpa using h1)]
theorem findO_no {S : List Fn} {o : Int × Int} (h : ¬ hasO S o) : findO S o = 0 := by
 have : S.find? (fun u => decide (spN u = o)) = none := by
  rw [List.find?_eq_none]; intro u hu; simp only [decide_eq_true_eq]; exact fun e => h ⟨u, hu, e⟩
 rw [findO, this]
theorem fO_get (S : List Fn) (o : Int × Int) : (fO S o).getD (.int .i64 0) = .int .i64 (findO S o) := by
 rw [fO]
 split
 ·rfl
 ·rename_i h; rw [findO_no h]; rfl
theorem fO_no {S : List Fn} {o : Int × Int} (h : ¬ hasO S o) : fO S o = none := if_neg h
theorem fO_yes {S : List Fn} (hn : NdO S) {t : Fn} (ht : t ∈ S) : fO S (spN t) = some (.int .i64 t.id) := by rw [fO, if_pos ⟨t, ht, rfl⟩, findO_yes hn ht]
theorem find_filter {α : Type} {p r : α → Bool} : ∀ {l : List α}, (∀ u ∈ l, p u = true → r u = true) → (l.filter r).find? p = l.find? p
 | [], _ => rfl
 | a :: l, h => by
  have ih := find_filter (p := p) (r := r) (l := l) fun u hu => h u (by simp [hu])
  by_cases hr : r a = true
  ·rw [List.filter_cons_of_pos hr, List.find?_cons, List.find?_cons, ih]
  ·have hp : p a = false := by
    cases hp : p a with
    | false => rfl
    | true => exact absurd (h a (by simp) hp) hr
   rw [List.filter_cons_of_neg hr, List.find?_cons, hp, ih]
theorem fO_off {S : List Fn} (hn : NdN S) (ho : NdO S) {t : Fn} (ht : t ∈ S) : fO (offN S t.id) = delF (fO S) (spN t) := by
 funext o
 simp only [fO, delF]
 by_cases e : o = spN t
 ·rw [if_pos e, if_neg]
  rintro ⟨u, hu, h1⟩
  have h2 := offN_mem.1 hu
  exact h2.2 (by rw [ho.inj h2.1 ht (h1.trans e)])
 ·rw [if_neg e]
  have hh : hasO (offN S t.id) o ↔ hasO S o := by
   constructor
   ·rintro ⟨u, hu, h1⟩; exact ⟨u, (offN_mem.1 hu).1, h1⟩
   ·rintro ⟨u, hu, h1⟩
    refine ⟨u, offN_mem.2 ⟨hu, fun h2 => e ?_⟩, h1⟩
    rw [← h1, hn.inj hu ht h2]
  have hf : findO (offN S t.id) o = findO S o := by
   rw [findO, findO, offN, find_filter]
   intro u hu h1
   simp only [decide_eq_true_eq] at h1 ⊢
   intro h2; exact e (by rw [← h1, hn.inj hu ht h2])
  by_cases h : hasO S o
  ·rw [if_pos h, if_pos (hh.2 h), hf]
  ·rw [if_neg h, if_neg (fun h2 => h (hh.1 h2))]
theorem fO_add {S : List Fn} {t : Fn} (h : ¬ hasO S (spN t)) : fO (S ++ [t]) = updF (fO S) (spN t) (.int .i64 t.id) := by
 funext o
 simp only [fO, updF]
 have hh : hasO (S ++ [t]) o ↔ hasO S o ∨ spN t = o := by simp [hasO, or_and_right, exists_or]
 by_cases e : o = spN t
 ·subst e
  rw [if_pos (hh.2 (.inr rfl)), if_pos rfl, findO, List.find?_append]
  have : S.find? (fun u => decide (spN u = spN t)) = none := by
   rw [List.find?_eq_none]; intro u hu; simp only [decide_eq_true_eq]; exact fun e => h ⟨u, hu, e⟩
  rw [this]; simp
 ·rw [if_neg e]
  by_cases h2 : hasO S o
  ·rw [if_pos (hh.2 (.inl h2)), if_pos h2, findO, findO, List.find?_append]
   obtain ⟨u, hu, h3⟩ := h2
   cases hf : S.find? fun u => decide (spN u = o) with
   | none => rw [List.find?_eq_none] at hf; exact absurd h3 (by simpa using hf u hu)
   | some v => rfl
  ·rw [if_neg h2, if_neg (fun h3 => (hh.1 h3).elim h2 (fun e2 => e e2.symm))]
theorem kidsN_mem {S : List Fn} {p x : Int} : x ∈ kidsN S p ↔ p ≠ 0 ∧ ∃ t ∈ S, t.par = p ∧ t.id = x := by
 simp only [kidsN, List.mem_map, List.mem_filter, decide_eq_true_eq]
 exact ⟨fun ⟨t, ⟨h1, h2, h3⟩, h4⟩ => ⟨h3, t, h1, h2, h4⟩, fun ⟨h3, t, h1, h2, h4⟩ => ⟨t, ⟨h1, h2, h3⟩, h4⟩⟩
theorem kidsN_app (S T : List Fn) (p : Int) : kidsN (S ++ T) p = kidsN S p ++ kidsN T p := by simp [kidsN]
theorem kidsN_one {t : Fn} {p : Int} (h : t.par = p) (h0 : p ≠ 0) : kidsN [t] p = [t.id] := by simp [kidsN, h, h0]
theorem kidsN_one_ne {t : Fn} {p : Int} (h : t.par ≠ p) : kidsN [t] p = [] := by simp [kidsN, h]
theorem kidsN_len (S : List Fn) (p : Int) : (kidsN S p).length ≤ S.length := by rw [kidsN, List.length_map]; exact List.length_filter_le _ _
theorem kidsN_off (S : List Fn) (p x : Int) : kidsN (offN S x) p = (kidsN S p).filter fun y => decide (y ≠ x) := by
 rw [kidsN, kidsN, List.filter_map, offN, List.filter_filter, List.filter_filter]
 congr 1
 refine List.filter_congr fun t _ => ?_
 simp only [Function.comp_apply, Bool.and_comm]
theorem kidsN_off_ne {S : List Fn} (hn : NdN S) {t : Fn} (ht : t ∈ S) {p : Int} (hp : t.par ≠ p) : kidsN (offN S t.id) p = kidsN S p := by
 rw [kidsN_off]
 refine List.filter_eq_self.2 fun y hy => ?_
 obtain ⟨_, u, hu, h1, rfl⟩ := kidsN_mem.1 hy
 simp only [decide_eq_true_eq]
 intro e
 rw [hn.inj hu ht e] at h1; exact hp h1
theorem kidsN_del {S : List Fn} {p x : Int} : (kidsN S p).filter (notP fun y => decide (y = x)) = kidsN (offN S x) p := by
 rw [kidsN_off]
 exact List.filter_congr fun y _ => by simp [notP]
theorem kidsN_nd {S : List Fn} (h : NdN S) (p : Int) : (kidsN S p).Nodup := h.sublist (List.filter_sublist.map _)
theorem WI.nil : WI [] 0 := ⟨List.nodup_nil, List.nodup_nil, (fun t h => by cases h), Int.le_refl _⟩
theorem WI.sub {S T : List Fn} {last : Int} (h : WI S last) (hs : T.Sublist S) : WI T last :=
 ⟨h.nd.sublist (hs.map _), h.no.sublist (hs.map _), fun t ht => h.rg t (hs.subset ht), by have := h.len; have := hs.length_le; omega⟩
theorem WI.off {S : List Fn} {last : Int} (h : WI S last) (x : Int) : WI (offN S x) last := h.sub List.filter_sublist
theorem WI.add {S : List Fn} {last : Int} (h : WI S last) {t : Fn} (ht : t.id = last + 1) (hp : 0 ≤ t.par ∧ t.par ≤ last) (ho : ¬ hasO S (spN t)) : WI (S ++ [t]) (last + 1) where
 nd := by
  rw [NdN, List.map_append, List.nodup_append]
  refine ⟨h.nd, by simp, fun x hx1 y hy => ?_⟩
  obtain ⟨a, ha, rfl⟩ := List.mem_map.1 hx1
  simp only [List.map_cons, List.map_nil, List.mem_singleton] at hy
  have := h.rg a ha
  omega
 no := by
  rw [NdO, List.map_append, List.nodup_append]
  refine ⟨h.no, by simp, fun x hx1 y hy => ?_⟩
  obtain ⟨a, ha, rfl⟩ := List.mem_map.1 hx1
  simp only [List.map_cons, List.map_nil, List.mem_singleton] at hy
  rw [hy]; exact fun e2 => ho ⟨a, ha, e2⟩
 rg := fun u hu => by
  have hl := h.len
  rcases List.mem_append.1 hu with hu | hu
  ·have := h.rg u hu; omega
  ·rw [List.mem_singleton.1 hu]; omega
 len := by have := h.len; rw [List.length_append, List.length_singleton]; omega
def addN (S : List Fn) (last par : Int) (o : Int × Int) : List Fn × Int × Int × Int := if ¬ hasN S par ∧ par ≠ 0 then (S, last, 0, 6) else if findO S o ≠ 0 then (S, last, 0, 7) else (S ++ [⟨last + 1, par, o.1, o.2⟩], last + 1, last + 1, 0)
def moveN (S : List Fn) (u : Fn) (p : Int) : List Fn := offN S u.id ++ [⟨u.id, p, u.sp, u.sl⟩]
theorem WI.move {S : List Fn} {last : Int} (h : WI S last) {u : Fn} (hu : u ∈ S) {p : Int} (hp : 0 ≤ p ∧ p < u.id) : WI (moveN S u p) last where
 nd := by
  rw [NdN, moveN, List.map_append, List.nodup_append]
  refine ⟨(h.off _).nd, by simp, fun x hx1 y hy => ?_⟩
  obtain ⟨a, ha, rfl⟩ := List.mem_map.1 hx1
  simp only [List.map_cons, List.map_nil, List.mem_singleton] at hy
  rw [hy]; exact (offN_mem.1 ha).2
 no := by
  rw [NdO, moveN, List.map_append, List.nodup_append]
  refine ⟨(h.off _).no, by simp, fun x hx1 y hy => ?_⟩
  obtain ⟨a, ha, rfl⟩ := List.mem_map.1 hx1
  simp only [List.map_cons, List.map_nil, List.mem_singleton] at hy
  rw [hy]; intro e2
  have ha2 := offN_mem.1 ha
  exact ha2.2 (by rw [h.no.inj ha2.1 hu e2])
 rg := fun v hv => by
  rcases List.mem_append.1 hv with hv | hv
  ·exact h.rg v (offN_mem.1 hv).1
  ·rw [List.mem_singleton.1 hv]; have := h.rg u hu; dsimp only; omega
 len := by have := h.len; have := offN_len h.nd hu; rw [moveN, List.length_append, List.length_singleton]; omega
theorem hasO_find {S : List Fn} {last : Int} (h : WI S last) (o : Int × Int) : hasO S o ↔ findO S o ≠ 0 := by
 constructor
 ·rintro ⟨t, ht, rfl⟩
  rw [findO_yes h.no ht]; have := h.rg t ht; omega
 ·intro h1
  by_cases h2 : hasO S o
  ·exact h2
  ·exact absurd (findO_no h2) h1
theorem hasN_pos {S : List Fn} {last : Int} (h : WI S last) {x : Int} (hx : hasN S x) : 1 ≤ x ∧ x ≤ last := by
 obtain ⟨t, ht, rfl⟩ := hx
 have := h.rg t ht; omega
end Go.Proofs.YtnlgmaibhlicjaaGreatDoor.Fo
