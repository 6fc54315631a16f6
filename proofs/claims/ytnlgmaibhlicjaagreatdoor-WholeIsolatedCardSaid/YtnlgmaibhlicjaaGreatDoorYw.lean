/- Proved here: contracts of functions of this program, under the premises that each theorem names. -/
import Derived.Test.YtnlgmaibhlicjaaGreatDoorYv
set_option maxRecDepth 4000
namespace Go.Proofs.YtnlgmaibhlicjaaGreatDoor
open Go Go.QM
theorem crblock_ok (crb hob sb fb cb pb hb qb top t : Nat) (S : PS) (l : List Hd.Pl) (ho : Hd.OkT l) (hg1 : Hd.getR l 1 = (ob 2 t 0, 0)) (hP : PInv top S) (k pn i : Nat) (f : Nat → Bool) (hk : (S.C 3)[k]? = some ⟨pn, f⟩) (hi : f i = true) : FSpec Tryz.prog 263 [.pointer (some ⟨crb, 0, none⟩), .agg #[.int .u32 1, .int .i64 ((pn * 1024 + 64 + i * clsz 3 : Nat) : Int)]] GV [pts crb 133 [.pointer (some ⟨hob, 0, none⟩)], pts hob 131 [.pointer (some ⟨sb, 0, none⟩)], pts sb 117 [.pointer (some ⟨cb, 0, none⟩), .pointer (some ⟨fb, 0, none⟩)], pts cb 87 [.pointer (some ⟨pb, 0, none⟩), .pointer (some ⟨hb, 0, none⟩), .pointer (some ⟨qb, 0, none⟩)], isPl pb top S, slc 174 5 (some ⟨hb, 0, none⟩) 256 256 (Hd.tabC l)] (fun y : Nat × PlRep => .tuple #[.pointer (some ⟨y.1, 0, none⟩), .int .i64 0]) (fun _ => True) (fun y => [pts y.1 417 [.pointer (some ⟨y.2.ar, 0, none⟩), .int .i64 ((pn * 1024 + 64 + i * clsz 3 : Nat) : Int)], pts crb 133 [.pointer (some ⟨hob, 0, none⟩)], pts hob 131 [.pointer (some ⟨sb, 0, none⟩)], pts sb 117 [.pointer (some ⟨cb, 0, none⟩), .pointer (some ⟨fb, 0, none⟩)], pts cb 87 [.pointer (some ⟨pb, 0, none⟩), .pointer (some ⟨hb, 0, none⟩), .pointer (some ⟨qb, 0, none⟩)], pts pb 93 (plC 8 y.2.t y.2.bd y.2.ar y.2.ca), Qt.isQ y.2.t S.Q S.nx, isBd y.2.bd top (pgs S.C S.Fr), isAr y.2.ar S.m (1024 * 2 ^ top), bigS (fun c => isCa (y.2.ca c) y.2.bd (clsz c) (S.C c)) cls, slc 174 5 (some ⟨hb, 0, none⟩) 256 256 (Hd.tabC l)]) := by
 refine fI Tryz.func263 Tryz.ntmps263 ?_
 intro F hF
 refine zz [104] ?_
 haveI : GVI F := ⟨hF⟩
 have hbd := Plc.bd hP (c := 3) (by decide) (show Plc (clsz 3) (S.C 3) (pn * 1024 + 64 + i * clsz 3) from ⟨_, List.mem_of_getElem? hk, i, hi, rfl⟩)
 have e3 : clsz 3 = 256 := rfl
 have htp : 2 ^ top ≤ 128 := Nat.pow_le_pow_right (n := 2) (by decide) hP.tp.2
 refine zz [0,1,5] ?_
 refine bx (v := .agg #[_, _]) (l := [.int _ _, .int _ _]) rfl rfl ?_
 intro b1
 refine zz [24,4,2,0,0,1,6,34,2,10,7,0,1,6,13,14,12,13,14,12,5] ?_
 refine cl (spobj_ok sb cb fb) rfl PkL.p trivial ?_
 intro _ _
 refine zz [53,24,2,0,0,1,6,14,12,5] ?_
 refine cl (coof_ok cb pb hb qb l ho 1 (by omega) (ob 2 t 0) hg1 2 (.inr rfl)) rfl PkL.p trivial ?_
 intro _ _
 refine zz [53,26,75,15,5] ?_
 refine al (l := [.int _ _, .int _ _, .int _ _]) rfl rfl ?_
 intro b2
 refine zz [21,48,4,2,0,1,3,23,2,10,7,0,0] ?_
 refine TC.draw _ [] [(0, false), (2, false), (3, false), (1, true), (4, true), (5, false)] (by kernel_rfl) (by kernel_rfl) (ent_take 4 rfl (ent_nil _)) ?_
 refine zz [28,60,18,16] ?_
 refine cl (comem_ok cb pb hb qb) rfl PkL.p trivial ?_
 intro _ _
 refine zz [118,8,16] ?_
 refine cl (plhas_ok pb top S 3 (by decide) k pn i f hk hi) rfl PkL.p GVI.gv ?_
 intro _ _
 refine zz [118,8,173,27,10] ?_
 refine TC.open 0 rfl (fun x0 hx0 => ?_)
 obtain ⟨tt, bd, ar, ca⟩ := x0
 clear hx0
 refine zz [135,7,0] ?_
 refine TC.draw _ [] [(0, false), (3, false), (4, false), (1, true), (2, true), (5, true), (6, false), (7, false)] (by kernel_rfl) (by kernel_rfl) (ent_take 9 rfl (ent_nil _)) ?_
 refine zz [28,60,18,16] ?_
 refine cl (comem_ok cb pb hb qb) rfl PkL.p trivial ?_
 intro _ _
 refine zz [282,8,16] ?_
 refine cl (plarena_ok pb tt bd ar ca) rfl PkL.p trivial ?_
 intro _ _
 refine zz [282,8,16] ?_
 refine cl (uat_ok ar (pn * 1024 + 64 + i * clsz 3) (1024 * 2 ^ top) S.m (by omega) (by omega) (by omega)) rfl PkL.p trivial ?_
 intro ub _
 refine zz [199,8,234,41,27,11] ?_
 exact Ret.i (ub, (⟨tt, bd, ar, ca⟩ : PlRep)) [_, _] ⟨rfl, rfl, trivial⟩ rfl trivial entS
end Go.Proofs.YtnlgmaibhlicjaaGreatDoor
namespace Go.Proofs.YtnlgmaibhlicjaaGreatDoor
open Go Go.QM
theorem crget0_ok (crb hob sb fb cb pb hb qb top t : Nat) (S : PS) (l : List Hd.Pl) (ho : Hd.OkT l) (hg1 : Hd.getR l 1 = (ob 2 t 0, 0)) (hP : PInv top S) (k pn i : Nat) (f : Nat → Bool) (hk : (S.C 3)[k]? = some ⟨pn, f⟩) (hi : f i = true) (hz : ∀ o, pn * 1024 + 64 + i * clsz 3 ≤ o → o + 8 ≤ pn * 1024 + 64 + i * clsz 3 + 256 → ldW S.m o = 0) : FSpec Tryz.prog 236 [.pointer (some ⟨crb, 0, none⟩), .agg #[.int .u32 1, .int .i64 ((pn * 1024 + 64 + i * clsz 3 : Nat) : Int)]] GV [pts crb 133 [.pointer (some ⟨hob, 0, none⟩)], pts hob 131 [.pointer (some ⟨sb, 0, none⟩)], pts sb 117 [.pointer (some ⟨cb, 0, none⟩), .pointer (some ⟨fb, 0, none⟩)], pts cb 87 [.pointer (some ⟨pb, 0, none⟩), .pointer (some ⟨hb, 0, none⟩), .pointer (some ⟨qb, 0, none⟩)], isPl pb top S, slc 174 5 (some ⟨hb, 0, none⟩) 256 256 (Hd.tabC l)] (fun _ : Unit => .tuple #[.agg #[.int .u64 0, .slice none 0 0, .slice none 0 0], .int .i64 0]) (fun _ => True) (fun _ => [pts crb 133 [.pointer (some ⟨hob, 0, none⟩)], pts hob 131 [.pointer (some ⟨sb, 0, none⟩)], pts sb 117 [.pointer (some ⟨cb, 0, none⟩), .pointer (some ⟨fb, 0, none⟩)], pts cb 87 [.pointer (some ⟨pb, 0, none⟩), .pointer (some ⟨hb, 0, none⟩), .pointer (some ⟨qb, 0, none⟩)], isPl pb top S, slc 174 5 (some ⟨hb, 0, none⟩) 256 256 (Hd.tabC l)]) := by
 refine fI Tryz.func236 Tryz.ntmps236 ?_
 intro F hF
 refine zz [104] ?_
 haveI : GVI F := ⟨hF⟩
 have hbd := Plc.bd hP (c := 3) (by decide) (show Plc (clsz 3) (S.C 3) (pn * 1024 + 64 + i * clsz 3) from ⟨_, List.mem_of_getElem? hk, i, hi, rfl⟩)
 have e3 : clsz 3 = 256 := rfl
 have htp : 2 ^ top ≤ 128 := Nat.pow_le_pow_right (n := 2) (by decide) hP.tp.2
 refine zz [0,1,5] ?_
 refine bx (v := .agg #[_, _]) (l := [.int _ _, .int _ _]) rfl rfl ?_
 intro b1
 refine e rfl ?_
 refine al (l := [.int _ _, .slice _ _ _, .slice _ _ _]) rfl rfl ?_
 intro b2
 refine zz [4,2,0,1,6,113,5] ?_
 refine cl (crblock_ok crb hob sb fb cb pb hb qb top t S l ho hg1 hP k pn i f hk hi) rfl PkL.p GVI.gv ?_
 intro y _
 refine zz [136,26,79,15,24,4,2,0,0,1,3,23,2,10,7,0,1,6,5] ?_
 refine cl (uget0_ok y.1 y.2.ar (pn * 1024 + 64 + i * clsz 3) (1024 * 2 ^ top) S.m (by omega) (by omega) (by omega) (hz _ (by omega) (by omega)) (hz _ (by omega) (by omega))) rfl PkL.p trivial ?_
 intro _ _
 refine zz [136,21,48,4,2,11] ?_
 exact Ret.i () [_, _] ⟨(rcN (n := 3) rfl rfl rfl rfl), rfl, trivial⟩ rfl trivial (ent_take 3 rfl (ent_take 3 rfl (ent_take 3 rfl (ent_take 3 rfl (ent_close (y.2 : PlRep) hP entS)))))
theorem ipget0_ok (ib crb hob sb thb irb hm gm lm fb cb pb hb qb top t : Nat) (S : PS) (l : List Hd.Pl) (ho : Hd.OkT l) (hg1 : Hd.getR l 1 = (ob 2 t 0, 0)) (hP : PInv top S) (k pn i : Nat) (f : Nat → Bool) (hk : (S.C 3)[k]? = some ⟨pn, f⟩) (hi : f i = true) (hz : ∀ o, pn * 1024 + 64 + i * clsz 3 ≤ o → o + 8 ≤ pn * 1024 + 64 + i * clsz 3 + 256 → ldW S.m o = 0) (th : Int) (hth : 0 ≤ th ∧ th ≤ 4294967295) (o : Hd.Ob) (hg : Hd.getR l th = (o, 0)) (hk3 : o.k = 3) (hf : Int → Option Value) (hn : Nat) (hhf : hf th = some (.agg #[.int .u32 1, .int .i64 ((pn * 1024 + 64 + i * clsz 3 : Nat) : Int)])) : FSpec Tryz.prog 197 [.pointer (some ⟨ib, 0, none⟩), .int .u32 th] GV [pts ib 128 [.pointer (some ⟨crb, 0, none⟩), .pointer (some ⟨thb, 0, none⟩), .pointer (some ⟨irb, 0, none⟩), .map (some hm), .map (some gm), .map (some lm)], pts crb 133 [.pointer (some ⟨hob, 0, none⟩)], pts hob 131 [.pointer (some ⟨sb, 0, none⟩)], pts sb 117 [.pointer (some ⟨cb, 0, none⟩), .pointer (some ⟨fb, 0, none⟩)], pts cb 87 [.pointer (some ⟨pb, 0, none⟩), .pointer (some ⟨hb, 0, none⟩), .pointer (some ⟨qb, 0, none⟩)], isPl pb top S, slc 174 5 (some ⟨hb, 0, none⟩) 256 256 (Hd.tabC l), mapF encU hm hf hn] (fun _ : Unit => .tuple #[.agg #[.int .u64 0, .slice none 0 0, .slice none 0 0], .int .i64 0]) (fun _ => True) (fun _ => [pts ib 128 [.pointer (some ⟨crb, 0, none⟩), .pointer (some ⟨thb, 0, none⟩), .pointer (some ⟨irb, 0, none⟩), .map (some hm), .map (some gm), .map (some lm)], pts crb 133 [.pointer (some ⟨hob, 0, none⟩)], pts hob 131 [.pointer (some ⟨sb, 0, none⟩)], pts sb 117 [.pointer (some ⟨cb, 0, none⟩), .pointer (some ⟨fb, 0, none⟩)], pts cb 87 [.pointer (some ⟨pb, 0, none⟩), .pointer (some ⟨hb, 0, none⟩), .pointer (some ⟨qb, 0, none⟩)], isPl pb top S, slc 174 5 (some ⟨hb, 0, none⟩) 256 256 (Hd.tabC l), mapF encU hm hf hn]) := by
 refine fI Tryz.func197 Tryz.ntmps197 ?_
 intro F hF
 refine zz [132] ?_
 haveI : GVI F := ⟨hF⟩
 refine zz [0,1,5] ?_
 refine al (l := [.int _ _, .slice _ _ _, .slice _ _ _]) rfl rfl ?_
 intro b1
 refine zz [4,2,0,0,1,6,3,5] ?_
 refine cl (ipof_ok ib crb hob sb thb irb hm gm lm fb cb pb hb qb l ho th hth o hg 3 (.inr hk3)) rfl PkL.p trivial ?_
 intro _ _
 refine zz [86,4,2,0,1,3,23,2,10,7,0] ?_
 refine TC.draw _ [] [(0, false), (2, false), (3, false), (4, false), (5, false), (6, false), (7, false), (1, true), (8, true), (9, false), (10, false), (11, true), (12, false)] (by kernel_rfl) (by kernel_rfl) (ent_take 0 rfl (ent_take 7 rfl (ent_nil _))) ?_
 refine zz [28,28,31,90,18,33] ?_
 refine dq rfl rfl rfl (luF 56 149 rfl rfl (KL.u32 rfl) rfl rfl) ?_
 refine de rfl rfl ?_
 refine cl (ipcar_ok ib crb hob sb thb irb hm gm lm) rfl PkL.p trivial ?_
 intro _ _
 refine zz [127,8] ?_
 rw [hhf]
 refine de rfl rfl ?_
 refine cl (crget0_ok crb hob sb fb cb pb hb qb top t S l ho hg1 hP k pn i f hk hi hz) rfl PkL.p GVI.gv ?_
 intro _ _
 refine zz [127,8,133,55,61,48,8,41,27,11] ?_
 exact zc6
theorem ipboth_ok (ib crb hob sb thb irb hm gm lm fb cb pb hb qb : Nat) (l : List Hd.Pl) (ho : Hd.OkT l) (t1 t2 : Int) (ht1 : 0 ≤ t1 ∧ t1 ≤ 4294967295) (ht2 : 0 ≤ t2 ∧ t2 ≤ 4294967295) (o1 o2 : Hd.Ob) (hg1 : Hd.getR l t1 = (o1, 0)) (hg2 : Hd.getR l t2 = (o2, 0)) (k1 k2 : Int) (hk1 : k1 = 0 ∨ o1.k = k1) (hk2 : k2 = 0 ∨ o2.k = k2) : FSpec Tryz.prog 246 [.pointer (some ⟨ib, 0, none⟩), .int .u32 t1, .int .i64 k1, .int .u32 t2, .int .i64 k2] noRd [pts ib 128 [.pointer (some ⟨crb, 0, none⟩), .pointer (some ⟨thb, 0, none⟩), .pointer (some ⟨irb, 0, none⟩), .map (some hm), .map (some gm), .map (some lm)], pts crb 133 [.pointer (some ⟨hob, 0, none⟩)], pts hob 131 [.pointer (some ⟨sb, 0, none⟩)], pts sb 117 [.pointer (some ⟨cb, 0, none⟩), .pointer (some ⟨fb, 0, none⟩)], pts cb 87 [.pointer (some ⟨pb, 0, none⟩), .pointer (some ⟨hb, 0, none⟩), .pointer (some ⟨qb, 0, none⟩)], slc 174 5 (some ⟨hb, 0, none⟩) 256 256 (Hd.tabC l)] (fun _ : Unit => .int .i64 0) (fun _ => True) (fun _ => [pts ib 128 [.pointer (some ⟨crb, 0, none⟩), .pointer (some ⟨thb, 0, none⟩), .pointer (some ⟨irb, 0, none⟩), .map (some hm), .map (some gm), .map (some lm)], pts crb 133 [.pointer (some ⟨hob, 0, none⟩)], pts hob 131 [.pointer (some ⟨sb, 0, none⟩)], pts sb 117 [.pointer (some ⟨cb, 0, none⟩), .pointer (some ⟨fb, 0, none⟩)], pts cb 87 [.pointer (some ⟨pb, 0, none⟩), .pointer (some ⟨hb, 0, none⟩), .pointer (some ⟨qb, 0, none⟩)], slc 174 5 (some ⟨hb, 0, none⟩) 256 256 (Hd.tabC l)]) := by
 refine fI Tryz.func246 Tryz.ntmps246 ?_
 intro F _
 refine zz [104,0,1,4,2,0,0,1,6,3,3,5] ?_
 refine cl (ipof_ok ib crb hob sb thb irb hm gm lm fb cb pb hb qb l ho t1 ht1 o1 hg1 k1 hk1) rfl PkL.p trivial ?_
 intro _ _
 refine zz [49,4,2,0,1,3,23,2,10,7,0,1,6,3,3,5] ?_
 refine cl (ipof_ok ib crb hob sb thb irb hm gm lm fb cb pb hb qb l ho t2 ht2 o2 hg2 k2 hk2) rfl PkL.p trivial ?_
 intro _ _
 refine zz [49,4,2,11] ?_
 exact zc0
theorem ipmay0_ok  : FSpec Tryz.prog 239 [.int .i64 0] noRd [] (fun _ : Unit => .bool true) (fun _ => True) (fun _ => []) := by
 refine fI Tryz.func239 Tryz.ntmps239 ?_
 intro F _
 refine zz [37,0,1,9,2,0,1,3,111,20] ?_
 refine TL.known 5 rfl (c := true) (decide_eq_true (by decide)) ?_
 refine zz [32,150,19,9,2,11] ?_
 exact zc2
theorem ipstate_ok (ib crb thb irb hm gm lm : Nat) (T : TS) (id : Int) (hid : 0 ≤ id ∧ id ≤ 4294967295) : FSpec Tryz.prog 240 [.pointer (some ⟨ib, 0, none⟩), .int .u32 id] noRd [pts ib 128 [.pointer (some ⟨crb, 0, none⟩), .pointer (some ⟨thb, 0, none⟩), .pointer (some ⟨irb, 0, none⟩), .map (some hm), .map (some gm), .map (some lm)], isT thb T] (fun _ : Unit => .int .i64 (stT T id)) (fun _ => True) (fun _ => [pts ib 128 [.pointer (some ⟨crb, 0, none⟩), .pointer (some ⟨thb, 0, none⟩), .pointer (some ⟨irb, 0, none⟩), .map (some hm), .map (some gm), .map (some lm)], isT thb T]) := by
 refine fI Tryz.func240 Tryz.ntmps240 ?_
 intro F _
 refine zz [44,0,1,4,2,0,0,1,6,34,2,10,7,0,1,6,13,14,47,12,3,142,5] ?_
 refine cl (tstate_ok thb T id) rfl PkL.p trivial ?_
 intro _ _
 refine zz [43,4,2,11] ?_
 exact zc0
theorem ipsend_no (ib crb hob sb thb irb hm gm lm fb cb pb hb qb : Nat) (l : List Hd.Pl) (ho : Hd.OkT l) (t1 t2 : Int) (ht1 : 0 ≤ t1 ∧ t1 ≤ 4294967295) (ht2 : 0 ≤ t2 ∧ t2 ≤ 4294967295) (o1 o2 : Hd.Ob) (hg1 : Hd.getR l t1 = (o1, 0)) (hg2 : Hd.getR l t2 = (o2, 0)) (hk1 : o1.k = 3) (hk2 : o2.k = 4) (T : TS) (hst : stT T t1 = 0) (gf : Int → Option Value) (gn gb : Nat) (hgf : gf t2 = some (.pointer (some ⟨gb, 0, none⟩))) : FSpec Tryz.prog 237 [.pointer (some ⟨ib, 0, none⟩), .int .u32 t1, .int .u32 t2, .bool false, .int .i64 0] noRd [pts ib 128 [.pointer (some ⟨crb, 0, none⟩), .pointer (some ⟨thb, 0, none⟩), .pointer (some ⟨irb, 0, none⟩), .map (some hm), .map (some gm), .map (some lm)], pts crb 133 [.pointer (some ⟨hob, 0, none⟩)], pts hob 131 [.pointer (some ⟨sb, 0, none⟩)], pts sb 117 [.pointer (some ⟨cb, 0, none⟩), .pointer (some ⟨fb, 0, none⟩)], pts cb 87 [.pointer (some ⟨pb, 0, none⟩), .pointer (some ⟨hb, 0, none⟩), .pointer (some ⟨qb, 0, none⟩)], slc 174 5 (some ⟨hb, 0, none⟩) 256 256 (Hd.tabC l), isT thb T, mapF encU gm gf gn, pts gb 152 [.int .i64 (-1), .int .u64 0]] (fun _ : Unit => .int .i64 12) (fun _ => True) (fun _ => [pts ib 128 [.pointer (some ⟨crb, 0, none⟩), .pointer (some ⟨thb, 0, none⟩), .pointer (some ⟨irb, 0, none⟩), .map (some hm), .map (some gm), .map (some lm)], pts crb 133 [.pointer (some ⟨hob, 0, none⟩)], pts hob 131 [.pointer (some ⟨sb, 0, none⟩)], pts sb 117 [.pointer (some ⟨cb, 0, none⟩), .pointer (some ⟨fb, 0, none⟩)], pts cb 87 [.pointer (some ⟨pb, 0, none⟩), .pointer (some ⟨hb, 0, none⟩), .pointer (some ⟨qb, 0, none⟩)], slc 174 5 (some ⟨hb, 0, none⟩) 256 256 (Hd.tabC l), isT thb T, mapF encU gm gf gn, pts gb 152 [.int .i64 (-1), .int .u64 0]]) := by
 refine fI Tryz.func237 Tryz.ntmps237 ?_
 intro F _
 refine zz [156,0,1,4,2,0,0,1,6,3,3,5] ?_
 refine cl (ipboth_ok ib crb hob sb thb irb hm gm lm fb cb pb hb qb l ho t1 t2 ht1 ht2 o1 o2 hg1 hg2 3 4 (.inr hk1) (.inr hk2)) rfl PkL.p trivial ?_
 intro _ _
 refine zz [86,4,2,0,1,3,23,2,10,7,0,1,6,13,125,12,3] ?_
 refine q rfl rfl (luF 56 150 rfl rfl (KL.u32 rfl) rfl rfl) ?_
 rw [hgf]
 refine zz [24,2,0,17,0,1,3,5] ?_
 refine cl (ipmay0_ok) rfl (picked_nil _) trivial ?_
 intro _ _
 refine zz [86,64,9,2,10,0,1,6,3,5] ?_
 refine cl (ipstate_ok ib crb thb irb hm gm lm T t1 ht1) rfl PkL.p trivial ?_
 intro _ _
 refine zz [86] ?_
 rw [hst]
 refine zz [23,20] ?_
 refine TL.known 37 rfl (c := false) (decide_eq_false (fun h => h rfl)) ?_
 refine zz [85,112,96,52,74,19,9,2,40,0,1,4,2,56] ?_
 exact zc0
end Go.Proofs.YtnlgmaibhlicjaaGreatDoor
namespace Go.QM
open Go
section
variable {r : Option Nat} {P : Program} {N : Nat} {ops : Array Oper} {l : List Oper} {Q : Post} {ρ : Env} {ds : List Deferred} {A : HP} {K : Value → HP → Prop}
variable {d : Option Tmp} {ty : TypeId} {ps : String} {af : Array Edge} {g : Option (Nat × Bool)}
variable {t t' : TypeId} {x y z u : Operand}
theorem cp0 (E sz : Nat) {n cap cap2 : Nat} {ad ad2 : Option Addr} (ht : slcT P t E sz = true) (hx : ev ρ x = .slice ad n cap) (hy : ev ρ y = .slice ad2 0 cap2) (kk : K (.int .i64 0) A) :
    OW r P ρ ⟨d, .call ⟨.builtin .copy, #[x, y], #[t, t']⟩, ty, ps, af, g⟩ A K := by
  refine OW.val (.int .i64 0) rfl (fun w _ => ?_) kk
  cases ad <;> cases ad2 <;> simp [execOp, resolve, invoke, builtin, Builtin.copy_, hx, hy, slcT_run ht, Builtin.lenOf, Builtin.firstCells, loadCells, loadCellsFrom, storeCells, goInt]
end
theorem ldB_z {m : Nat → Nat} {o : Nat} : ∀ {n : Nat}, ldB m o n = 0 → ∀ i, o ≤ i → i < o + n → m i = 0
  | 0, _, i, h1, h2 => by omega
  | n + 1, h, i, h1, h2 => by
    rw [ldB] at h
    have hp := Nat.pow_pos (a := 2) (n := 8 * n) (by decide)
    have h3 : ldB m o n = 0 := by omega
    have h4 : m (o + n) * 2 ^ (8 * n) = 0 := by omega
    by_cases e : i = o + n
    · subst e; exact (Nat.mul_eq_zero.1 h4).resolve_right (by omega)
    · exact ldB_z h3 i h1 (by omega)
theorem stWs_same {m : Nat → Nat} {o : Nat} {L : List Nat} (hL : ∀ x ∈ L, x = 0) (h : ∀ j, j < L.length → ldW m (o + j * 8) = 0) : stWs m o L = m := by
  funext i
  rw [stWs, stL]
  split
  · rename_i hi
    obtain ⟨j, hj, e1, e2⟩ : ∃ j, j < L.length ∧ o + j * 8 ≤ i ∧ i < o + j * 8 + 8 := ⟨(i - o) / 8, by omega, by omega, by omega⟩
    rw [ldB_z (n := 8) (h j hj) i e1 e2]
    have h0 : L.getD ((i - o) / 8) 0 = 0 := by
      rw [List.getD_eq_getElem?_getD]
      cases hx : L[(i - o) / 8]? with
      | none => rfl
      | some x => exact hL x (List.mem_of_getElem? hx)
    rw [h0, Nat.zero_div]
  · rfl
end Go.QM
namespace Go.Proofs.YtnlgmaibhlicjaaGreatDoor
open Go Go.QM
theorem uput0_ok (ub ar at9 n : Nat) (m : Nat → Nat) (hn : n ≤ 131072) (ha : at9 + 256 ≤ n) (h8 : at9 % 8 = 0) (hz : ∀ o, at9 ≤ o → o + 8 ≤ at9 + 256 → ldW m o = 0) (wa : Option Addr) (wc : Nat) : FSpec Tryz.prog 264 [.pointer (some ⟨ub, 0, none⟩), .int .u64 0, .slice wa 0 wc, .slice none 0 0] noRd [pts ub 417 [.pointer (some ⟨ar, 0, none⟩), .int .i64 (at9 : Int)], isAr ar m n] (fun _ : Unit => .int .i64 0) (fun _ => True) (fun _ => [pts ub 417 [.pointer (some ⟨ar, 0, none⟩), .int .i64 (at9 : Int)], isAr ar m n]) := by
 refine fI Tryz.func264 Tryz.ntmps264 ?_
 intro F _
 refine zz [44] ?_
 have hm1 : stWs m (at9 + 0 * 8) [0, 0] = m := stWs_same (fun x hx => by simp only [List.mem_cons, List.not_mem_nil, or_false, or_self] at hx; exact hx) (fun j hj => hz _ (by omega) (by simp only [List.length_cons, List.length_nil] at hj; omega))
 have hm2 : stWs m (at9 + 3 * 8) (List.replicate 10 0) = m := stWs_same (fun x hx => (List.mem_replicate.1 hx).2) (fun j hj => hz _ (by omega) (by rw [List.length_replicate] at hj; omega))
 refine zz [0,1,4,2,0,0,1,6,34,20,212] ?_
 refine qg rfl rfl rfl (len 31 1 rfl rfl) ?_
 refine zz [84,19,20] ?_
 refine TL.known 21 rfl (c := false) (decide_eq_false (by decide)) ?_
 refine zz [212,223,84,19,2] ?_
 refine TC.condD rfl (fun hc1 => absurd hc1 ((by decide))) (fun hc1 => ?_)
 refine zz [7,0,1,5] ?_
 refine al (l := [.int _ _, .int _ _, .int _ _, .int _ _, .int _ _, .int _ _, .int _ _, .int _ _, .int _ _, .int _ _]) rfl rfl ?_
 intro b1
 refine zz [2,0,1] ?_
 refine q rfl rfl (slA 10 31 1 rfl rfl (by rfl)) ?_
 refine zz [29,5] ?_
 refine cp0 31 1 rfl rfl rfl ?_
 refine zz [2,0,0,1,29,179,3,2,17] ?_
 refine TC.loop (ι := Unit) (fun q7 => True) (fun q7 => [(0, .pointer (some ⟨ub, 0, none⟩)), (1, .int .u64 0), (2, .slice wa 0 wc), (3, .slice none 0 0), (9, .pointer (some ⟨b1, 0, none⟩)), (30, .int .i64 ((0 : Nat) : Int)), (31, .int .i64 0)]) (fun q7 => sepL [pts b1 415 [.int .u64 0, .int .u64 0, .int .u64 0, .int .u64 0, .int .u64 0, .int .u64 0, .int .u64 0, .int .u64 0, .int .u64 0, .int .u64 0], pts ub 417 [.pointer (some ⟨ar, 0, none⟩), .int .i64 (at9 : Int)], isAr ar m n, F]) (fun q7 => 0) () trivial ⟨rfl, rfl, rfl, rfl, rfl, rfl, rfl, trivial⟩ entS ?_
 rintro _ _ ρ0
 dsimp only [updL]
 refine zz [0,1,38,2,0] ?_
 refine TC.condD rfl (fun hc2 => absurd hc2 ((by decide))) (fun hc2 => ?_)
 refine zz [50] ?_
 refine TC.cut (ι := Unit) (fun q8 => True) (fun q8 => [(0, .pointer (some ⟨ub, 0, none⟩)), (9, .pointer (some ⟨b1, 0, none⟩))]) (fun q8 => sepL [pts ub 417 [.pointer (some ⟨ar, 0, none⟩), .int .i64 (at9 : Int)], isAr ar m n, pts b1 415 [.int .u64 0, .int .u64 0, .int .u64 0, .int .u64 0, .int .u64 0, .int .u64 0, .int .u64 0, .int .u64 0, .int .u64 0, .int .u64 0], F]) ?_ ?_
 ·refine TC.drawF _ [] 16 rfl (by kernel_rfl) (by kernel_rfl) (ent_take 1 rfl (ent_nil _)) ?_
  refine zz [177,190,191,264] ?_
  refine fq (i := 4) rfl rfl rfl (by kernel_rfl) (mv (v := .pointer _) rfl) ?_
  refine fq (i := 6) rfl rfl rfl (by kernel_rfl) (mv (v := .slice _ _ _) rfl) ?_
  refine fq (i := 7) rfl rfl rfl (by kernel_rfl) (len 31 1 rfl rfl) ?_
  refine fq (i := 8) rfl rfl rfl (by kernel_rfl) (mv (v := .slice _ _ _) rfl) ?_
  refine fq (i := 9) rfl rfl rfl (by kernel_rfl) (len 248 5 rfl rfl) ?_
  refine fq (i := 10) rfl rfl rfl (by kernel_rfl) (shlI (a := 0) (n := 4) (c := 0) rfl rfl (by decide) rfl (by decide)) ?_
  refine fq (i := 11) rfl rfl rfl (by kernel_rfl) (orI (a := 0) (b := 0) (c := 0) rfl rfl (by decide) (by decide) rfl) ?_
  refine fq (i := 12) rfl rfl rfl (by kernel_rfl) (conv .i64 .u64 rfl rfl rfl (wU (a := 0) (by decide))) ?_
  refine fq (i := 13) rfl rfl rfl (by kernel_rfl) (mv (v := .int _ _) rfl) ?_
  refine ff (i := 5) (j := 14) rfl rfl rfl rfl (by kernel_rfl) ?_ ?_
  ·refine cl (uword_ok ub ar at9 0 (by omega) (by omega)) rfl PkL.p trivial ?_
   intro _ _
   refine zz [154,8] ?_
   refine TF.of [(14, true), (15, true)] (by kernel_rfl) rfl ?_
   refine zz [16,114] ?_
   intro b2
   refine zz [8,16] ?_
   refine cl (arstore_ok ar n (at9 + 0 * 8) m [0, 0] (some ⟨b2, 0, none⟩) 2 hn (by decide) (by simp only [List.length_cons, List.length_nil]; omega) (by omega) (by intro x hx; simp only [List.mem_cons, List.not_mem_nil, or_false, or_self] at hx; subst hx; decide)) rfl PkL.p ⟨_, RdSI.rd (ad := some ⟨b2, 0, none⟩)⟩ ?_
   intro _ _
   refine zz [65,8] ?_
   rw [hm1]
   refine TD.nil (nt ?_)
   exact ⟨rfl, (), trivial, ⟨rfl, rfl, trivial⟩, entS⟩
  ·refine zz [114] ?_
   intro b3
   refine ⟨entS, ?_⟩
   refine TF.of [(5, true), (15, true)] (by kernel_rfl) rfl ?_
   refine de rfl rfl ?_
   refine cl (uword_ok ub ar at9 0 (by omega) (by omega)) rfl PkL.p trivial ?_
   intro _ _
   refine zz [65,8,16] ?_
   refine cl (arstore_ok ar n (at9 + 0 * 8) m [0, 0] (some ⟨b3, 0, none⟩) 2 hn (by decide) (by simp only [List.length_cons, List.length_nil]; omega) (by omega) (by intro x hx; simp only [List.mem_cons, List.not_mem_nil, or_false, or_self] at hx; subst hx; decide)) rfl PkL.p ⟨_, RdSI.rd (ad := some ⟨b3, 0, none⟩)⟩ ?_
   intro _ _
   refine zz [65,8] ?_
   rw [hm1]
   refine TD.nil (nt ?_)
   exact ⟨rfl, (), trivial, ⟨rfl, rfl, trivial⟩, entS⟩
 ·rintro _ _ ρ1
  dsimp only [updL]
  refine TC.seq ?_
  refine TC.draw _ [] [(0, false), (1, false), (2, false), (3, false), (4, false), (6, false), (5, true), (7, true), (8, false)] (by kernel_rfl) (by kernel_rfl) (ent_take 0 rfl (ent_nil _)) ?_
  refine zz [28,31,25,18,28] ?_
  refine dq rfl rfl rfl (slA 10 31 1 rfl rfl (by rfl)) ?_
  refine de rfl rfl ?_
  refine cl (uword_ok ub ar at9 3 (by omega) (by omega)) rfl PkL.p trivial ?_
  intro _ _
  refine zz [166,8,16] ?_
  refine cl (arstore_ok ar n (at9 + 3 * 8) m (List.replicate 10 0) (some ⟨b1, 0, none⟩) 10 hn (by decide) (by simp only [List.length_replicate]; omega) (by omega) (by intro x hx; rw [(List.mem_replicate.1 hx).2]; decide)) rfl PkL.p ⟨_, RdS_ent (ent_one 1 rfl) (RdS_mid b1 415 0 10 [.int .u64 0, .int .u64 0, .int .u64 0, .int .u64 0, .int .u64 0, .int .u64 0, .int .u64 0, .int .u64 0, .int .u64 0, .int .u64 0])⟩ ?_
  intro _ _
  refine zz [166,8] ?_
  rw [hm2]
  refine zz [41,27,11] ?_
  exact zc0
theorem crput0_ok (crb hob sb fb cb pb hb qb top t : Nat) (S : PS) (l : List Hd.Pl) (ho : Hd.OkT l) (hg1 : Hd.getR l 1 = (ob 2 t 0, 0)) (hP : PInv top S) (k pn i : Nat) (f : Nat → Bool) (hk : (S.C 3)[k]? = some ⟨pn, f⟩) (hi : f i = true) (hz : ∀ o, pn * 1024 + 64 + i * clsz 3 ≤ o → o + 8 ≤ pn * 1024 + 64 + i * clsz 3 + 256 → ldW S.m o = 0) (wa : Option Addr) (wc : Nat) : FSpec Tryz.prog 220 [.pointer (some ⟨crb, 0, none⟩), .agg #[.int .u32 1, .int .i64 ((pn * 1024 + 64 + i * clsz 3 : Nat) : Int)], .agg #[.int .u64 0, .slice wa 0 wc, .slice none 0 0]] GV [pts crb 133 [.pointer (some ⟨hob, 0, none⟩)], pts hob 131 [.pointer (some ⟨sb, 0, none⟩)], pts sb 117 [.pointer (some ⟨cb, 0, none⟩), .pointer (some ⟨fb, 0, none⟩)], pts cb 87 [.pointer (some ⟨pb, 0, none⟩), .pointer (some ⟨hb, 0, none⟩), .pointer (some ⟨qb, 0, none⟩)], isPl pb top S, slc 174 5 (some ⟨hb, 0, none⟩) 256 256 (Hd.tabC l)] (fun _ : Unit => .int .i64 0) (fun _ => True) (fun _ => [pts crb 133 [.pointer (some ⟨hob, 0, none⟩)], pts hob 131 [.pointer (some ⟨sb, 0, none⟩)], pts sb 117 [.pointer (some ⟨cb, 0, none⟩), .pointer (some ⟨fb, 0, none⟩)], pts cb 87 [.pointer (some ⟨pb, 0, none⟩), .pointer (some ⟨hb, 0, none⟩), .pointer (some ⟨qb, 0, none⟩)], isPl pb top S, slc 174 5 (some ⟨hb, 0, none⟩) 256 256 (Hd.tabC l)]) := by
 refine fI Tryz.func220 Tryz.ntmps220 ?_
 intro F hF
 refine zz [104] ?_
 haveI : GVI F := ⟨hF⟩
 have hbd := Plc.bd hP (c := 3) (by decide) (show Plc (clsz 3) (S.C 3) (pn * 1024 + 64 + i * clsz 3) from ⟨_, List.mem_of_getElem? hk, i, hi, rfl⟩)
 have e3 : clsz 3 = 256 := rfl
 have htp : 2 ^ top ≤ 128 := Nat.pow_le_pow_right (n := 2) (by decide) hP.tp.2
 refine zz [0,1,5] ?_
 refine bx (v := .agg #[_, _]) (l := [.int _ _, .int _ _]) rfl rfl ?_
 intro b1
 refine e rfl ?_
 refine bx (v := .agg #[_, _, _]) (l := [.int _ _, .slice _ _ _, .slice _ _ _]) rfl rfl ?_
 intro b2
 refine zz [4,2,0,1,6,113,5] ?_
 refine cl (crblock_ok crb hob sb fb cb pb hb qb top t S l ho hg1 hP k pn i f hk hi) rfl PkL.p GVI.gv ?_
 intro y _
 refine zz [136,26,79,15,24,4,2,0,0,1,3,23,2,10,7,0,1,6,14,12,47,12,62,12,5] ?_
 refine cl (uput0_ok y.1 y.2.ar (pn * 1024 + 64 + i * clsz 3) (1024 * 2 ^ top) S.m (by omega) (by omega) (by omega) hz wa wc) rfl PkL.p trivial ?_
 intro _ _
 refine zz [136,4,2,11] ?_
 exact Ret.i () [_] ⟨rfl, trivial⟩ rfl trivial (ent_take 2 rfl (ent_take 2 rfl (ent_take 2 rfl (ent_take 2 rfl (ent_close (y.2 : PlRep) hP entS)))))
theorem ipput0_ok (ib crb hob sb thb irb hm gm lm fb cb pb hb qb top t : Nat) (S : PS) (l : List Hd.Pl) (ho : Hd.OkT l) (hg1 : Hd.getR l 1 = (ob 2 t 0, 0)) (hP : PInv top S) (k pn i : Nat) (f : Nat → Bool) (hk : (S.C 3)[k]? = some ⟨pn, f⟩) (hi : f i = true) (hz : ∀ o, pn * 1024 + 64 + i * clsz 3 ≤ o → o + 8 ≤ pn * 1024 + 64 + i * clsz 3 + 256 → ldW S.m o = 0) (th : Int) (hth : 0 ≤ th ∧ th ≤ 4294967295) (o : Hd.Ob) (hg : Hd.getR l th = (o, 0)) (hk3 : o.k = 3) (hf : Int → Option Value) (hn : Nat) (hhf : hf th = some (.agg #[.int .u32 1, .int .i64 ((pn * 1024 + 64 + i * clsz 3 : Nat) : Int)])) (wa : Option Addr) (wc : Nat) : FSpec Tryz.prog 198 [.pointer (some ⟨ib, 0, none⟩), .int .u32 th, .agg #[.int .u64 0, .slice wa 0 wc, .slice none 0 0]] GV [pts ib 128 [.pointer (some ⟨crb, 0, none⟩), .pointer (some ⟨thb, 0, none⟩), .pointer (some ⟨irb, 0, none⟩), .map (some hm), .map (some gm), .map (some lm)], pts crb 133 [.pointer (some ⟨hob, 0, none⟩)], pts hob 131 [.pointer (some ⟨sb, 0, none⟩)], pts sb 117 [.pointer (some ⟨cb, 0, none⟩), .pointer (some ⟨fb, 0, none⟩)], pts cb 87 [.pointer (some ⟨pb, 0, none⟩), .pointer (some ⟨hb, 0, none⟩), .pointer (some ⟨qb, 0, none⟩)], isPl pb top S, slc 174 5 (some ⟨hb, 0, none⟩) 256 256 (Hd.tabC l), mapF encU hm hf hn] (fun _ : Unit => .int .i64 0) (fun _ => True) (fun _ => [pts ib 128 [.pointer (some ⟨crb, 0, none⟩), .pointer (some ⟨thb, 0, none⟩), .pointer (some ⟨irb, 0, none⟩), .map (some hm), .map (some gm), .map (some lm)], pts crb 133 [.pointer (some ⟨hob, 0, none⟩)], pts hob 131 [.pointer (some ⟨sb, 0, none⟩)], pts sb 117 [.pointer (some ⟨cb, 0, none⟩), .pointer (some ⟨fb, 0, none⟩)], pts cb 87 [.pointer (some ⟨pb, 0, none⟩), .pointer (some ⟨hb, 0, none⟩), .pointer (some ⟨qb, 0, none⟩)], isPl pb top S, slc 174 5 (some ⟨hb, 0, none⟩) 256 256 (Hd.tabC l), mapF encU hm hf hn]) := by
 refine fI Tryz.func198 Tryz.ntmps198 ?_
 intro F hF
 refine zz [132] ?_
 haveI : GVI F := ⟨hF⟩
 refine zz [0,1,5] ?_
 refine bx (v := .agg #[_, _, _]) (l := [.int _ _, .slice _ _ _, .slice _ _ _]) rfl rfl ?_
 intro b3
 refine zz [4,2,0,0,1,6,3,5] ?_
 refine cl (ipof_ok ib crb hob sb thb irb hm gm lm fb cb pb hb qb l ho th hth o hg 3 (.inr hk3)) rfl PkL.p trivial ?_
 intro _ _
 refine zz [86,4,2,0,1,3,23,2,10,7,0] ?_
 refine TC.draw _ [] [(0, false), (2, false), (3, false), (4, false), (5, false), (6, false), (7, false), (8, false), (1, true), (9, true), (10, false)] (by kernel_rfl) (by kernel_rfl) (ent_take 0 rfl (ent_take 5 rfl (ent_take 6 rfl (ent_nil _)))) ?_
 refine zz [28,28,31,90,18,33] ?_
 refine dq rfl rfl rfl (luF 56 149 rfl rfl (KL.u32 rfl) rfl rfl) ?_
 rw [hhf]
 refine zz [165,16] ?_
 refine cl (ipcar_ok ib crb hob sb thb irb hm gm lm) rfl PkL.p trivial ?_
 intro _ _
 refine zz [127,8,16] ?_
 refine cl (crput0_ok crb hob sb fb cb pb hb qb top t S l ho hg1 hP k pn i f hk hi hz wa wc) rfl PkL.p GVI.gv ?_
 intro _ _
 refine zz [127,8,41,27,11] ?_
 exact zc0
theorem kpass_send (kb ib crb hob sb thb irb hm gm lm fb cb pb hb qb top t : Nat) (S : PS) (l : List Hd.Pl) (ho : Hd.OkT l) (hg1 : Hd.getR l 1 = (ob 2 t 0, 0)) (hP : PInv top S) (k pn i : Nat) (f : Nat → Bool) (hk : (S.C 3)[k]? = some ⟨pn, f⟩) (hi : f i = true) (hz : ∀ o, pn * 1024 + 64 + i * clsz 3 ≤ o → o + 8 ≤ pn * 1024 + 64 + i * clsz 3 + 256 → ldW S.m o = 0) (s ch : Nat) (hch : ch < 4294967295) (o1 o2 : Hd.Ob) (hk1 : o1.k = 3) (hk2 : o2.k = 4) (hg2 : Hd.getR l 2 = (o1, 0)) (hg3 : Hd.getR l (ch : Int) = (o2, 0)) (T : TS) (hst : stT T 2 = 0) (gf : Int → Option Value) (gn gb : Nat) (hgf : gf (ch : Int) = some (.pointer (some ⟨gb, 0, none⟩))) (hf : Int → Option Value) (hn : Nat) (hhf : hf 2 = some (.agg #[.int .u32 1, .int .i64 ((pn * 1024 + 64 + i * clsz 3 : Nat) : Int)])) (wa : Option Addr) (wc : Nat) : FSpec Tryz.prog 199 [.pointer (some ⟨kb, 0, none⟩), .agg #[.int .i64 (10 : Int), .int .i64 (s : Int), .int .i64 (0 : Int), .int .i64 (0 : Int), .int .i64 0, .bool false, .int .u64 (0 : Int), .slice wa 0 wc, .slice none 0 0, .int .u32 2, .int .u32 1, .int .u32 (ch : Int), .int .i64 15]] GV [pts kb 74 [.pointer (some ⟨ib, 0, none⟩)], pts ib 128 [.pointer (some ⟨crb, 0, none⟩), .pointer (some ⟨thb, 0, none⟩), .pointer (some ⟨irb, 0, none⟩), .map (some hm), .map (some gm), .map (some lm)], pts crb 133 [.pointer (some ⟨hob, 0, none⟩)], pts hob 131 [.pointer (some ⟨sb, 0, none⟩)], pts sb 117 [.pointer (some ⟨cb, 0, none⟩), .pointer (some ⟨fb, 0, none⟩)], pts cb 87 [.pointer (some ⟨pb, 0, none⟩), .pointer (some ⟨hb, 0, none⟩), .pointer (some ⟨qb, 0, none⟩)], isPl pb top S, slc 174 5 (some ⟨hb, 0, none⟩) 256 256 (Hd.tabC l), isT thb T, mapF encU hm hf hn, mapF encU gm gf gn, pts gb 152 [.int .i64 (-1), .int .u64 0]] (fun _ : Unit => .int .i64 12) (fun _ => True) (fun _ => [pts kb 74 [.pointer (some ⟨ib, 0, none⟩)], pts ib 128 [.pointer (some ⟨crb, 0, none⟩), .pointer (some ⟨thb, 0, none⟩), .pointer (some ⟨irb, 0, none⟩), .map (some hm), .map (some gm), .map (some lm)], pts crb 133 [.pointer (some ⟨hob, 0, none⟩)], pts hob 131 [.pointer (some ⟨sb, 0, none⟩)], pts sb 117 [.pointer (some ⟨cb, 0, none⟩), .pointer (some ⟨fb, 0, none⟩)], pts cb 87 [.pointer (some ⟨pb, 0, none⟩), .pointer (some ⟨hb, 0, none⟩), .pointer (some ⟨qb, 0, none⟩)], isPl pb top S, slc 174 5 (some ⟨hb, 0, none⟩) 256 256 (Hd.tabC l), isT thb T, mapF encU hm hf hn, mapF encU gm gf gn, pts gb 152 [.int .i64 (-1), .int .u64 0]]) := by
 refine fI Tryz.func199 Tryz.ntmps199 ?_
 intro F hF
 refine zz [135] ?_
 haveI : GVI F := ⟨hF⟩
 refine zz [0,1,5] ?_
 refine bx (v := .agg (List.toArray [.int .i64 (10 : Int), .int .i64 (s : Int), .int .i64 (0 : Int), .int .i64 (0 : Int), .int .i64 0, .bool false, .int .u64 (0 : Int), .slice wa 0 wc, .slice none 0 0, .int .u32 2, .int .u32 1, .int .u32 (ch : Int), .int .i64 15])) (l := [.int .i64 (10 : Int), .int .i64 (s : Int), .int .i64 (0 : Int), .int .i64 (0 : Int), .int .i64 0, .bool false, .int .u64 (0 : Int), .slice wa 0 wc, .slice none 0 0, .int .u32 2, .int .u32 1, .int .u32 (ch : Int), .int .i64 15]) rfl rfl ?_
 intro bd9
 refine zz [4,2,0,0,1,14,14,12,30,2,40,0] ?_
 refine TC.draw _ [] [(0, false), (1, false), (2, false), (3, false), (4, false), (5, false), (6, false), (7, false), (8, false), (9, false), (10, false), (11, false), (12, false), (13, false), (14, false), (15, false), (16, true), (17, false)] (by kernel_rfl) (by kernel_rfl) (ent_take 0 rfl (ent_take 0 rfl (ent_nil _))) ?_
 refine zz [28,31,25,25,18,153,18,137,25,18,25] ?_
 first | refine dq rfl rfl rfl (fa 5 rfl rfl) ?_ | refine dq rfl rfl rfl (faS 5 rfl rfl asm0) ?_
 refine zz [18,25,270,18,16] ?_
 refine cl (ipsend_no ib crb hob sb thb irb hm gm lm fb cb pb hb qb l ho 2 (ch : Int) (by decide) (by omega) o1 o2 hg2 hg3 hk1 hk2 T hst gf gn gb hgf) rfl PkL.p trivial ?_
 intro _ _
 refine zz [199,8,41,27,51] ?_
 exact zc0
theorem kmsg_send (kb ib crb hob sb thb irb hm gm lm fb cb pb hb qb top t : Nat) (S : PS) (l : List Hd.Pl) (ho : Hd.OkT l) (hg1 : Hd.getR l 1 = (ob 2 t 0, 0)) (hP : PInv top S) (k pn i : Nat) (f : Nat → Bool) (hk : (S.C 3)[k]? = some ⟨pn, f⟩) (hi : f i = true) (hz : ∀ o, pn * 1024 + 64 + i * clsz 3 ≤ o → o + 8 ≤ pn * 1024 + 64 + i * clsz 3 + 256 → ldW S.m o = 0) (s ch : Nat) (hch : ch < 4294967295) (o1 o2 : Hd.Ob) (hk1 : o1.k = 3) (hk2 : o2.k = 4) (hg2 : Hd.getR l 2 = (o1, 0)) (hg3 : Hd.getR l (ch : Int) = (o2, 0)) (T : TS) (hst : stT T 2 = 0) (gf : Int → Option Value) (gn gb : Nat) (hgf : gf (ch : Int) = some (.pointer (some ⟨gb, 0, none⟩))) (hf : Int → Option Value) (hn : Nat) (hhf : hf 2 = some (.agg #[.int .u32 1, .int .i64 ((pn * 1024 + 64 + i * clsz 3 : Nat) : Int)])) (wa : Option Addr) (wc : Nat) : FSpec Tryz.prog 153 [.pointer (some ⟨kb, 0, none⟩), .agg #[.int .i64 (10 : Int), .int .i64 (s : Int), .int .i64 (0 : Int), .int .i64 (0 : Int), .int .i64 0, .bool false, .int .u64 (0 : Int), .slice wa 0 wc, .slice none 0 0, .int .u32 2, .int .u32 1, .int .u32 (ch : Int), .int .i64 15]] GV [pts kb 74 [.pointer (some ⟨ib, 0, none⟩)], pts ib 128 [.pointer (some ⟨crb, 0, none⟩), .pointer (some ⟨thb, 0, none⟩), .pointer (some ⟨irb, 0, none⟩), .map (some hm), .map (some gm), .map (some lm)], pts crb 133 [.pointer (some ⟨hob, 0, none⟩)], pts hob 131 [.pointer (some ⟨sb, 0, none⟩)], pts sb 117 [.pointer (some ⟨cb, 0, none⟩), .pointer (some ⟨fb, 0, none⟩)], pts cb 87 [.pointer (some ⟨pb, 0, none⟩), .pointer (some ⟨hb, 0, none⟩), .pointer (some ⟨qb, 0, none⟩)], isPl pb top S, slc 174 5 (some ⟨hb, 0, none⟩) 256 256 (Hd.tabC l), isT thb T, mapF encU hm hf hn, mapF encU gm gf gn, pts gb 152 [.int .i64 (-1), .int .u64 0]] (fun _ : Unit => .int .i64 12) (fun _ => True) (fun _ => [pts kb 74 [.pointer (some ⟨ib, 0, none⟩)], pts ib 128 [.pointer (some ⟨crb, 0, none⟩), .pointer (some ⟨thb, 0, none⟩), .pointer (some ⟨irb, 0, none⟩), .map (some hm), .map (some gm), .map (some lm)], pts crb 133 [.pointer (some ⟨hob, 0, none⟩)], pts hob 131 [.pointer (some ⟨sb, 0, none⟩)], pts sb 117 [.pointer (some ⟨cb, 0, none⟩), .pointer (some ⟨fb, 0, none⟩)], pts cb 87 [.pointer (some ⟨pb, 0, none⟩), .pointer (some ⟨hb, 0, none⟩), .pointer (some ⟨qb, 0, none⟩)], isPl pb top S, slc 174 5 (some ⟨hb, 0, none⟩) 256 256 (Hd.tabC l), isT thb T, mapF encU hm hf hn, mapF encU gm gf gn, pts gb 152 [.int .i64 (-1), .int .u64 0]]) := by
 refine fI Tryz.func153 Tryz.ntmps153 ?_
 intro F hF
 refine zz [135] ?_
 haveI : GVI F := ⟨hF⟩
 refine zz [0,1,5] ?_
 refine bx (v := .agg (List.toArray [.int .i64 (10 : Int), .int .i64 (s : Int), .int .i64 (0 : Int), .int .i64 (0 : Int), .int .i64 0, .bool false, .int .u64 (0 : Int), .slice wa 0 wc, .slice none 0 0, .int .u32 2, .int .u32 1, .int .u32 (ch : Int), .int .i64 15])) (l := [.int .i64 (10 : Int), .int .i64 (s : Int), .int .i64 (0 : Int), .int .i64 (0 : Int), .int .i64 0, .bool false, .int .u64 (0 : Int), .slice wa 0 wc, .slice none 0 0, .int .u32 2, .int .u32 1, .int .u32 (ch : Int), .int .i64 15]) rfl rfl ?_
 intro bd9
 refine zz [4,2,0] ?_
 refine TC.drawF _ [] 14 rfl (by kernel_rfl) (by kernel_rfl) (show ent (sepL _) (sepL [pts bd9 237 [.int .i64 (10 : Int), .int .i64 (s : Int), .int .i64 (0 : Int), .int .i64 (0 : Int), .int .i64 0, .bool false, .int .u64 (0 : Int), .slice wa 0 wc, .slice none 0 0, .int .u32 2, .int .u32 1, .int .u32 (ch : Int), .int .i64 15], pts kb 74 [.pointer (some ⟨ib, 0, none⟩)]]) from entS) ?_
 refine zz [177,190,191,274,275] ?_
 first | refine fq (i := 5) rfl rfl rfl (by kernel_rfl) (fa 9 rfl rfl) ?_ | refine fq (i := 5) rfl rfl rfl (by kernel_rfl) (faS 9 rfl rfl asm0) ?_
 first | refine fq (i := 6) rfl rfl rfl (by kernel_rfl) (ld rfl rfl rfl) ?_ | refine fq (i := 6) rfl rfl rfl (by kernel_rfl) (ldS rfl rfl rfl) ?_
 refine ff (i := 7) (j := 11) rfl rfl rfl rfl (by kernel_rfl) ?_ ?_
 ·refine cl (ipget0_ok ib crb hob sb thb irb hm gm lm fb cb pb hb qb top t S l ho hg1 hP k pn i f hk hi (fun o h1 h2 => hz o h1 h2) 2 (by decide) o1 hg2 hk1 hf hn hhf) rfl PkL.p GVI.gv ?_
  intro _ _
  change ent _ _ ∧ TF _ _ _ _ _ _ _ _ _ _ _ (sepL [_, _, _, _, _, _, _, _, _, _, _, _, _, _])
  refine ⟨entS, ?_⟩
  refine TF.of [(8, false), (9, false), (10, false), (11, true), (12, true), (13, false)] (by kernel_rfl) rfl ?_
  refine zz [83,133,55,16] ?_
  refine al (l := [.int _ _, .slice _ _ _, .slice _ _ _]) rfl rfl ?_
  intro b1
  refine zz [8,61,48,8,41,27,0] ?_
  refine TC.draw _ [] [(0, false), (1, false), (2, false), (3, false), (4, false), (5, false), (6, false), (7, false), (8, false), (9, false), (10, false), (11, false), (12, false), (13, false), (14, false), (15, false), (16, false), (17, true)] (by kernel_rfl) (by kernel_rfl) (show ent (sepL _) (sepL [pts bd9 237 [.int .i64 (10 : Int), .int .i64 (s : Int), .int .i64 (0 : Int), .int .i64 (0 : Int), .int .i64 0, .bool false, .int .u64 (0 : Int), .slice wa 0 wc, .slice none 0 0, .int .u32 2, .int .u32 1, .int .u32 (ch : Int), .int .i64 15], pts kb 74 [.pointer (some ⟨ib, 0, none⟩)]]) from entS) ?_
  refine zz [28,31,25,25,18,153,18,25,196,18,25,181,18,25,226,18,283,16] ?_
  refine cl (ipput0_ok ib crb hob sb thb irb hm gm lm fb cb pb hb qb top t S l ho hg1 hP k pn i f hk hi hz 2 (by decide) o1 hg2 hk1 hf hn hhf wa wc) rfl PkL.p GVI.gv ?_
  intro _ _
  refine zz [182,8,27,0,1,6] ?_
  refine q rfl rfl (ldN 13 (vs := [.int .i64 (10 : Int), .int .i64 (s : Int), .int .i64 (0 : Int), .int .i64 (0 : Int), .int .i64 0, .bool false, .int .u64 (0 : Int), .slice wa 0 wc, .slice none 0 0, .int .u32 2, .int .u32 1, .int .u32 (ch : Int), .int .i64 15]) rfl rfl (by kernel_rfl) rfl) ?_
  refine e rfl ?_
  refine cl (kpass_send kb ib crb hob sb thb irb hm gm lm fb cb pb hb qb top t S l ho hg1 hP k pn i f hk hi hz s ch hch o1 o2 hk1 hk2 hg2 hg3 T hst gf gn gb hgf hf hn hhf wa wc) rfl PkL.p GVI.gv ?_
  intro _ _
  refine zz [200,4,2,0,0,1,3,23,2,40,0] ?_
  refine TC.draw _ [] [(0, false), (1, false), (2, false), (3, false), (4, false), (5, false), (6, false), (7, false), (8, true)] (by kernel_rfl) (by kernel_rfl) (show ent (sepL _) (sepL [pts bd9 237 [.int .i64 (10 : Int), .int .i64 (s : Int), .int .i64 (0 : Int), .int .i64 (0 : Int), .int .i64 0, .bool false, .int .u64 (0 : Int), .slice wa 0 wc, .slice none 0 0, .int .u32 2, .int .u32 1, .int .u32 (ch : Int), .int .i64 15], pts kb 74 [.pointer (some ⟨ib, 0, none⟩)], pts b1 347 [.int .u64 0, .slice none 0 0, .slice none 0 0]]) from entS) ?_
  refine zz [28,31,25,25,18,153,18,165,16] ?_
  refine cl (ipput0_ok ib crb hob sb thb irb hm gm lm fb cb pb hb qb top t S l ho hg1 hP k pn i f hk hi hz 2 (by decide) o1 hg2 hk1 hf hn hhf none 0) rfl PkL.p GVI.gv ?_
  intro _ _
  refine zz [182,8,27,0,1,3,4,2,51] ?_
  exact zc0
 ·refine al (l := [.int _ _, .slice _ _ _, .slice _ _ _]) rfl rfl ?_
  intro b2
  refine ⟨entS, ?_⟩
  refine TF.of [(7, true), (8, false), (9, false), (10, false), (12, true), (13, false)] (by kernel_rfl) rfl ?_
  refine de rfl rfl ?_
  refine cl (ipget0_ok ib crb hob sb thb irb hm gm lm fb cb pb hb qb top t S l ho hg1 hP k pn i f hk hi (fun o h1 h2 => hz o h1 h2) 2 (by decide) o1 hg2 hk1 hf hn hhf) rfl PkL.p GVI.gv ?_
  intro _ _
  refine zz [182,8,83,133,55,61,48,8,41,27,0] ?_
  refine TC.draw _ [] [(0, false), (1, false), (2, false), (3, false), (4, false), (5, false), (6, false), (7, false), (8, false), (9, false), (10, false), (11, false), (12, false), (13, false), (14, false), (15, false), (16, false), (17, true)] (by kernel_rfl) (by kernel_rfl) (show ent (sepL _) (sepL [pts bd9 237 [.int .i64 (10 : Int), .int .i64 (s : Int), .int .i64 (0 : Int), .int .i64 (0 : Int), .int .i64 0, .bool false, .int .u64 (0 : Int), .slice wa 0 wc, .slice none 0 0, .int .u32 2, .int .u32 1, .int .u32 (ch : Int), .int .i64 15], pts kb 74 [.pointer (some ⟨ib, 0, none⟩)]]) from entS) ?_
  refine zz [28,31,25,25,18,153,18,25,196,18,25,181,18,25,226,18,283,16] ?_
  refine cl (ipput0_ok ib crb hob sb thb irb hm gm lm fb cb pb hb qb top t S l ho hg1 hP k pn i f hk hi hz 2 (by decide) o1 hg2 hk1 hf hn hhf wa wc) rfl PkL.p GVI.gv ?_
  intro _ _
  refine zz [182,8,27,0,1,6] ?_
  refine q rfl rfl (ldN 13 (vs := [.int .i64 (10 : Int), .int .i64 (s : Int), .int .i64 (0 : Int), .int .i64 (0 : Int), .int .i64 0, .bool false, .int .u64 (0 : Int), .slice wa 0 wc, .slice none 0 0, .int .u32 2, .int .u32 1, .int .u32 (ch : Int), .int .i64 15]) rfl rfl (by kernel_rfl) rfl) ?_
  refine e rfl ?_
  refine cl (kpass_send kb ib crb hob sb thb irb hm gm lm fb cb pb hb qb top t S l ho hg1 hP k pn i f hk hi hz s ch hch o1 o2 hk1 hk2 hg2 hg3 T hst gf gn gb hgf hf hn hhf wa wc) rfl PkL.p GVI.gv ?_
  intro _ _
  refine zz [200,4,2,0,0,1,3,23,2,40,0] ?_
  refine TC.draw _ [] [(0, false), (1, false), (2, false), (3, false), (4, false), (5, false), (6, false), (7, false), (8, true)] (by kernel_rfl) (by kernel_rfl) (show ent (sepL _) (sepL [pts bd9 237 [.int .i64 (10 : Int), .int .i64 (s : Int), .int .i64 (0 : Int), .int .i64 (0 : Int), .int .i64 0, .bool false, .int .u64 (0 : Int), .slice wa 0 wc, .slice none 0 0, .int .u32 2, .int .u32 1, .int .u32 (ch : Int), .int .i64 15], pts kb 74 [.pointer (some ⟨ib, 0, none⟩)], pts b2 347 [.int .u64 0, .slice none 0 0, .slice none 0 0]]) from entS) ?_
  refine zz [28,31,25,25,18,153,18,165,16] ?_
  refine cl (ipput0_ok ib crb hob sb thb irb hm gm lm fb cb pb hb qb top t S l ho hg1 hP k pn i f hk hi hz 2 (by decide) o1 hg2 hk1 hf hn hhf none 0) rfl PkL.p GVI.gv ?_
  intro _ _
  refine zz [182,8,27,0,1,3,4,2,51] ?_
  exact zc0
theorem kdo_send (kb ib crb hob sb thb irb hm gm lm fb cb pb hb qb top t : Nat) (S : PS) (l : List Hd.Pl) (ho : Hd.OkT l) (hg1 : Hd.getR l 1 = (ob 2 t 0, 0)) (hP : PInv top S) (k pn i : Nat) (f : Nat → Bool) (hk : (S.C 3)[k]? = some ⟨pn, f⟩) (hi : f i = true) (hz : ∀ o, pn * 1024 + 64 + i * clsz 3 ≤ o → o + 8 ≤ pn * 1024 + 64 + i * clsz 3 + 256 → ldW S.m o = 0) (s ch : Nat) (hch : ch < 4294967295) (o1 o2 : Hd.Ob) (hk1 : o1.k = 3) (hk2 : o2.k = 4) (hg2 : Hd.getR l 2 = (o1, 0)) (hg3 : Hd.getR l (ch : Int) = (o2, 0)) (T : TS) (hst : stT T 2 = 0) (gf : Int → Option Value) (gn gb : Nat) (hgf : gf (ch : Int) = some (.pointer (some ⟨gb, 0, none⟩))) (hf : Int → Option Value) (hn : Nat) (hhf : hf 2 = some (.agg #[.int .u32 1, .int .i64 ((pn * 1024 + 64 + i * clsz 3 : Nat) : Int)])) (wa : Option Addr) (wc : Nat) : FSpec Tryz.prog 107 [.pointer (some ⟨kb, 0, none⟩), .agg #[.int .i64 (10 : Int), .int .i64 (s : Int), .int .i64 (0 : Int), .int .i64 (0 : Int), .int .i64 0, .bool false, .int .u64 (0 : Int), .slice wa 0 wc, .slice none 0 0, .int .u32 2, .int .u32 1, .int .u32 (ch : Int), .int .i64 15]] GV [pts kb 74 [.pointer (some ⟨ib, 0, none⟩)], pts ib 128 [.pointer (some ⟨crb, 0, none⟩), .pointer (some ⟨thb, 0, none⟩), .pointer (some ⟨irb, 0, none⟩), .map (some hm), .map (some gm), .map (some lm)], pts crb 133 [.pointer (some ⟨hob, 0, none⟩)], pts hob 131 [.pointer (some ⟨sb, 0, none⟩)], pts sb 117 [.pointer (some ⟨cb, 0, none⟩), .pointer (some ⟨fb, 0, none⟩)], pts cb 87 [.pointer (some ⟨pb, 0, none⟩), .pointer (some ⟨hb, 0, none⟩), .pointer (some ⟨qb, 0, none⟩)], isPl pb top S, slc 174 5 (some ⟨hb, 0, none⟩) 256 256 (Hd.tabC l), isT thb T, mapF encU hm hf hn, (EX fun _ : Unit => pure' True (sepL [mapF encU gm gf gn, pts gb 152 [.int .i64 (-1), .int .u64 0]]))] (fun _ : Unit => .tuple #[.int .u64 ((0 : Nat) : Int), .int .i64 12]) (fun _ => True) (fun _ => [pts kb 74 [.pointer (some ⟨ib, 0, none⟩)], pts ib 128 [.pointer (some ⟨crb, 0, none⟩), .pointer (some ⟨thb, 0, none⟩), .pointer (some ⟨irb, 0, none⟩), .map (some hm), .map (some gm), .map (some lm)], isT thb T, mapF encU hm hf hn, (EX fun _ : Unit => pure' True (sepL [pts crb 133 [.pointer (some ⟨hob, 0, none⟩)], pts hob 131 [.pointer (some ⟨sb, 0, none⟩)], pts sb 117 [.pointer (some ⟨cb, 0, none⟩), .pointer (some ⟨fb, 0, none⟩)], pts cb 87 [.pointer (some ⟨pb, 0, none⟩), .pointer (some ⟨hb, 0, none⟩), .pointer (some ⟨qb, 0, none⟩)], isPl pb top S, slc 174 5 (some ⟨hb, 0, none⟩) 256 256 (Hd.tabC l), mapF encU gm gf gn, pts gb 152 [.int .i64 (-1), .int .u64 0]]))]) := by
 refine fI Tryz.func107 Tryz.ntmps107 ?_
 intro F hF
 refine zz [94] ?_
 haveI : GVI F := ⟨hF⟩
 refine TC.open 10 rfl (fun x0 hx0 => ?_)
 obtain ⟨⟩ := x0
 clear hx0
 refine zz [135,0,1,5] ?_
 refine bx (v := .agg (List.toArray [.int .i64 (10 : Int), .int .i64 (s : Int), .int .i64 (0 : Int), .int .i64 (0 : Int), .int .i64 0, .bool false, .int .u64 (0 : Int), .slice wa 0 wc, .slice none 0 0, .int .u32 2, .int .u32 1, .int .u32 (ch : Int), .int .i64 15])) (l := [.int .i64 (10 : Int), .int .i64 (s : Int), .int .i64 (0 : Int), .int .i64 (0 : Int), .int .i64 0, .bool false, .int .u64 (0 : Int), .slice wa 0 wc, .slice none 0 0, .int .u32 2, .int .u32 1, .int .u32 (ch : Int), .int .i64 15]) rfl rfl ?_
 intro bd9
 refine zz [4,4,2,0,0,1,14,14,12,2,17,0,1,30,9,2,10,0,1,30,9,2,10,0,1,30,9,2,10,0,1,30,9,2,10,0,0,1,30,9,2,40,7,40,0,1,6] ?_
 refine q rfl rfl (ldN 13 (vs := [.int .i64 (10 : Int), .int .i64 (s : Int), .int .i64 (0 : Int), .int .i64 (0 : Int), .int .i64 0, .bool false, .int .u64 (0 : Int), .slice wa 0 wc, .slice none 0 0, .int .u32 2, .int .u32 1, .int .u32 (ch : Int), .int .i64 15]) rfl rfl (by kernel_rfl) rfl) ?_
 refine e rfl ?_
 refine cl (kmsg_send kb ib crb hob sb thb irb hm gm lm fb cb pb hb qb top t S l ho hg1 hP k pn i f hk hi hz s ch hch o1 o2 hk1 hk2 hg2 hg3 T hst gf gn gb hgf hf hn hhf wa wc) rfl PkL.p GVI.gv ?_
 intro _ _
 refine zz [136,4,4,2,56] ?_
 exact Ret.i () [_, _] ⟨rfl, rfl, trivial⟩ rfl trivial (ent_take 0 rfl (ent_take 0 rfl (ent_take 6 rfl (ent_take 6 rfl (ent_close () trivial entS)))))
theorem coown_kind (cb pb hb qb : Nat) (l : List Hd.Pl) (ho : Hd.OkT l) (h : Int) (hh : 0 ≤ h ∧ h ≤ 4294967295) (o : Hd.Ob) (hg : Hd.getR l h = (o, 0)) (hk : o.k ≠ 1) : FSpec Tryz.prog 39 [.pointer (some ⟨cb, 0, none⟩), .int .u32 h] noRd [pts cb 87 [.pointer (some ⟨pb, 0, none⟩), .pointer (some ⟨hb, 0, none⟩), .pointer (some ⟨qb, 0, none⟩)], slc 174 5 (some ⟨hb, 0, none⟩) 256 256 (Hd.tabC l)] (fun _ : Unit => .tuple #[.int .i64 0, .int .i64 10]) (fun _ => True) (fun _ => [pts cb 87 [.pointer (some ⟨pb, 0, none⟩), .pointer (some ⟨hb, 0, none⟩), .pointer (some ⟨qb, 0, none⟩)], slc 174 5 (some ⟨hb, 0, none⟩) 256 256 (Hd.tabC l)]) := by
 refine fI Tryz.func39 Tryz.ntmps39 ?_
 intro F _
 refine zz [44,0,1,4,4,2,0,1,6,3,5] ?_
 refine cl (coof_kind cb pb hb qb l ho h hh o hg 1 ⟨by decide, hk⟩) rfl PkL.p trivial ?_
 intro _ _
 refine zz [43,26,75,15,5] ?_
 refine al (l := [.int _ _, .int _ _, .int _ _]) rfl rfl ?_
 intro b1
 refine zz [21,48,4,2,0,0,1,3,23,2,40,0,1,3,4,4,2,51] ?_
 exact zc3
theorem comade_no (cb pb hb qb : Nat) (l : List Hd.Pl) (ho : Hd.OkT l) (h : Int) (hh : 0 ≤ h ∧ h ≤ 4294967295) (o : Hd.Ob) (hg : Hd.getR l h = (o, 0)) (hk : o.k ≠ 1) : FSpec Tryz.prog 231 [.pointer (some ⟨cb, 0, none⟩), .int .u32 h] noRd [pts cb 87 [.pointer (some ⟨pb, 0, none⟩), .pointer (some ⟨hb, 0, none⟩), .pointer (some ⟨qb, 0, none⟩)], slc 174 5 (some ⟨hb, 0, none⟩) 256 256 (Hd.tabC l)] (fun _ : Unit => .slice none 0 0) (fun _ => True) (fun _ => [pts cb 87 [.pointer (some ⟨pb, 0, none⟩), .pointer (some ⟨hb, 0, none⟩), .pointer (some ⟨qb, 0, none⟩)], slc 174 5 (some ⟨hb, 0, none⟩) 256 256 (Hd.tabC l)]) := by
 refine fI Tryz.func231 Tryz.ntmps231 ?_
 intro F _
 refine zz [44,0,1,35,2,0,1,35,2,0,1,6,3,5] ?_
 refine cl (coown_kind cb pb hb qb l ho h hh o hg hk) rfl PkL.p trivial ?_
 intro _ _
 refine zz [43,26,15,15,4,4,2,0,0,1,3,23,2,40,0,1,35,2,51] ?_
 exact zc0
theorem colive_ok (cb pb hb qb : Nat) (l : List Hd.Pl) (ho : Hd.OkT l) : FSpec Tryz.prog 268 [.pointer (some ⟨cb, 0, none⟩)] noRd [pts cb 87 [.pointer (some ⟨pb, 0, none⟩), .pointer (some ⟨hb, 0, none⟩), .pointer (some ⟨qb, 0, none⟩)], slc 174 5 (some ⟨hb, 0, none⟩) 256 256 (Hd.tabC l)] (fun y : Option Addr × Nat => .slice y.1 (Hd.allL l 1).length y.2) (fun _ => True) (fun y => [slc 56 1 y.1 (Hd.allL l 1).length y.2 (nums .u32 (Hd.allL l 1)), pts cb 87 [.pointer (some ⟨pb, 0, none⟩), .pointer (some ⟨hb, 0, none⟩), .pointer (some ⟨qb, 0, none⟩)], slc 174 5 (some ⟨hb, 0, none⟩) 256 256 (Hd.tabC l)]) := by
 refine fI Tryz.func268 Tryz.ntmps268 ?_
 intro F _
 refine zz [44,0,1,35,2,0,0,1,6,34,2,10,7,0,1,6,13,47,12,5] ?_
 refine cl (Hd.live_ok hb l ho) rfl (picked_nil _) ⟨_, RdSI.rd (ad := some ⟨hb, 0, none⟩)⟩ ?_
 intro y _
 refine zz [46,35,2,11] ?_
 exact Ret.i y [_] ⟨rfl, trivial⟩ rfl trivial entS
theorem hrev1_ok (ad : Option Addr) (cap : Nat) (v : Value) : FSpec Tryz.prog 232 [.slice ad 1 cap] noRd [slc 56 1 ad 1 cap [v]] (fun _ : Unit => .tuple #[]) (fun _ => True) (fun _ => [slc 56 1 ad 1 cap [v]]) := by
 refine fI Tryz.func232 Tryz.ntmps232 ?_
 intro F _
 refine zz [39,0,1,29,116,128,4,4,2,17] ?_
 refine TC.loop (ι := Unit) (fun q7 => True) (fun q7 => [(0, .slice ad 1 cap), (2, .int .i64 0), (3, .int .i64 0)]) (fun q7 => sepL [slc 56 1 ad 1 cap [v], F]) (fun q7 => 0) () trivial ⟨rfl, rfl, rfl, trivial⟩ (ent_take 0 rfl (ent_take 0 rfl (ent_nil _))) ?_
 rintro _ _ ρ0
 dsimp only [updL]
 refine zz [0,0,1,3,3,38,2] ?_
 refine TC.condD rfl (fun hc1 => absurd hc1 ((by decide))) (fun hc1 => ?_)
 refine TC.exit (et (et (eb ?_)))
 exact zc7
theorem counder_no (cb pb hb qb : Nat) (l : List Hd.Pl) (ho : Hd.OkT l) (h : Int) (hh : 0 ≤ h ∧ h ≤ 4294967295) (o : Hd.Ob) (hg : Hd.getR l h = (o, 0)) (hk : o.k ≠ 1) : FSpec Tryz.prog 192 [.pointer (some ⟨cb, 0, none⟩), .int .u32 h] noRd [pts cb 87 [.pointer (some ⟨pb, 0, none⟩), .pointer (some ⟨hb, 0, none⟩), .pointer (some ⟨qb, 0, none⟩)], slc 174 5 (some ⟨hb, 0, none⟩) 256 256 (Hd.tabC l)] (fun y : Option Addr × Nat => .slice y.1 0 y.2) (fun _ => True) (fun y => [slc 56 1 y.1 0 y.2 [], pts cb 87 [.pointer (some ⟨pb, 0, none⟩), .pointer (some ⟨hb, 0, none⟩), .pointer (some ⟨qb, 0, none⟩)], slc 174 5 (some ⟨hb, 0, none⟩) 256 256 (Hd.tabC l)]) := by
 refine fI Tryz.func192 Tryz.ntmps192 ?_
 intro F _
 refine zz [44,0,1,35,2,0,1,35,2,0,1,3,5,72] ?_
 intro b2
 refine zz [35,2,0,17] ?_
 refine TC.loop (ι := Nat × (Option Addr × Nat) × (Option Addr × Nat)) (fun s => s.1 ≤ 1) (fun s => [(0, .pointer (some ⟨cb, 0, none⟩)), (1, .int .u32 h), (5, .slice s.2.2.1 s.1 s.2.2.2), (6, .slice s.2.1.1 (1 - s.1) s.2.1.2)]) (fun s => sepL [slc 56 1 s.2.1.1 (1 - s.1) s.2.1.2 (List.replicate (1 - s.1) (.int .u32 h)), slc 56 1 s.2.2.1 s.1 s.2.2.2 (List.replicate s.1 (.int .u32 h)), pts cb 87 [.pointer (some ⟨pb, 0, none⟩), .pointer (some ⟨hb, 0, none⟩), .pointer (some ⟨qb, 0, none⟩)], slc 174 5 (some ⟨hb, 0, none⟩) 256 256 (Hd.tabC l), F]) (fun s => 1 - s.1) (0, (some ⟨b2, 0, none⟩, 1), (none, 0)) (Nat.zero_le _) ⟨rfl, rfl, rfl, rfl, trivial⟩ ((slc_nil 56 1 _).trans (ent_take 1 rfl (ent_take 0 rfl (ent_take 0 rfl (ent_take 0 rfl (ent_take 0 rfl (ent_nil _))))))) ?_
 rintro ⟨i, ⟨wa, wc⟩, ⟨oa, oc⟩⟩ hi ρ0
 dsimp only [updL] at hi ⊢
 have hi2 : i = 0 ∨ i = 1 := by omega
 rcases hi2 with rfl | rfl
 ·change TC _ _ _ _ _ _ _ (sepL [slc 56 1 wa 1 wc [Value.int .u32 h], slc 56 1 oa 0 oc [], pts cb 87 [.pointer (some ⟨pb, 0, none⟩), .pointer (some ⟨hb, 0, none⟩), .pointer (some ⟨qb, 0, none⟩)], slc 174 5 (some ⟨hb, 0, none⟩) 256 256 (Hd.tabC l), F])
  refine zz [0,0,1,29,116,107,2] ?_
  refine TC.condD rfl (fun hc2 => ?_) (fun hc2 => absurd ((by decide)) hc2)
  have hpos : 0 < [Value.int .u32 h].length := Nat.one_pos
  refine zz [7,17,0,1,29,29,116,128,167,12,4,2,0] ?_
  have hto : ent (slc 56 1 wa 1 wc [.int .u32 h]) (slc 56 1 wa 0 wc []) := slc_to (E := 56) (sz := 1) (ad := wa) (n := 1) (cap := wc) (cs := [.int .u32 h]) (j := 0) (by decide)
  refine TC.weak (ent_takeW 0 rfl hto (ent_take 0 rfl (ent_take 0 rfl (ent_take 0 rfl (ent_take 0 rfl (ent_nil _)))))) ?_
  refine TC.draw _ [] [(0, false), (1, false), (2, false), (3, false), (4, false), (5, false), (6, false), (7, true), (8, true), (9, false)] (by kernel_rfl) (by kernel_rfl) (show ent (sepL _) (sepL [pts cb 87 [.pointer (some ⟨pb, 0, none⟩), .pointer (some ⟨hb, 0, none⟩), .pointer (some ⟨qb, 0, none⟩)]]) from entS) ?_
  refine zz [102,102] ?_
  refine dq rfl rfl rfl (len 56 1 rfl rfl) ?_
  refine zz [207] ?_
  refine dq rfl rfl rfl (slTn 56 1 (0) rfl rfl rfl (by omega) (by omega)) ?_
  refine zz [28,33,16] ?_
  refine cl (comade_no cb pb hb qb l ho h hh o hg hk) rfl PkL.p trivial ?_
  intro _ _
  refine zz [65,8,16] ?_
  refine ap (hr := rdsi_nil _ _) 4 rfl rfl rfl rfl rfl (Nat.le_of_ble_eq_true rfl) rfl rfl (by decide) (by simp only [maxLen]; omega) ?_
  intro wa1 wc1
  refine zz [8,213,27,1,29,3,5,72] ?_
  intro b3
  refine zz [5,175] ?_
  intro ad1 cap1
  refine zz [35,63] ?_
  exact ⟨rfl, (1, (wa1, wc1), (ad1, cap1)), (Nat.le_refl 1), (by show 1 - 1 < 1 - 0; decide), ⟨rfl, rfl, rfl, rfl, trivial⟩, entS⟩
 ·change TC _ _ _ _ _ _ _ (sepL [slc 56 1 wa 0 wc [], slc 56 1 oa 1 oc [Value.int .u32 h], pts cb 87 [.pointer (some ⟨pb, 0, none⟩), .pointer (some ⟨hb, 0, none⟩), .pointer (some ⟨qb, 0, none⟩)], slc 174 5 (some ⟨hb, 0, none⟩) 256 256 (Hd.tabC l), F])
  refine zz [0,0,1,29,116,107,2] ?_
  refine TC.condD rfl (fun hc3 => absurd hc3 ((by decide))) (fun hc3 => ?_)
  refine zz [50,0,1,29,5] ?_
  refine cl (hrev1_ok oa oc (.int .u32 h)) rfl PkL.p trivial ?_
  intro _ _
  refine zz [57] ?_
  have hto : ent (slc 56 1 oa 1 oc [.int .u32 h]) (slc 56 1 oa 0 oc []) := slc_to (E := 56) (sz := 1) (ad := oa) (n := 1) (cap := oc) (cs := [.int .u32 h]) (j := 0) (by decide)
  refine zz [2,0,1,29,29,116,128] ?_
  refine q rfl rfl (slTn 56 1 (0) rfl rfl rfl (by omega) (by omega)) ?_
  refine zz [35,2,11] ?_
  exact Ret.i (oa, oc) [_] ⟨rfl, trivial⟩ rfl trivial (ent_takeW 0 rfl hto entS)
theorem codoom_ok (cb pb hb qb : Nat) (pd : Int) (hpd : 1 ≤ pd ∧ pd ≤ 16) (l : List Hd.Pl) (ho : Hd.OkT l) (h : Int) (hh : 0 ≤ h ∧ h ≤ 4294967295) (o : Hd.Ob) (hg : Hd.getR l h = (o, 0)) (hk : o.k ≠ 1) (h0 : h ≠ 0) : FSpec Tryz.prog 274 [.pointer (some ⟨cb, 0, none⟩), .int .u32 h] noRd [pts cb 87 [.pointer (some ⟨pb, 0, none⟩), .pointer (some ⟨hb, 0, none⟩), .pointer (some ⟨qb, 0, none⟩)], slc 174 5 (some ⟨hb, 0, none⟩) 256 256 (Hd.tabC l), Gr.isQ qb pd 0 []] (fun _ : Unit => .int .i64 0) (fun _ => True) (fun _ => []) := by
 refine fI Tryz.func274 Tryz.ntmps274 ?_
 intro F _
 refine zz [77,0,1,4,2,0,1,6,3,5] ?_
 refine cl (coof_ok cb pb hb qb l ho h hh o hg 0 (.inl rfl)) rfl PkL.p trivial ?_
 intro _ _
 refine zz [46,26,75,15,5] ?_
 refine al (l := [.int _ _, .int _ _, .int _ _]) rfl rfl ?_
 intro b4
 refine zz [21,48,4,2,0,17,0,1,3,23,9,2,10,0,1,3,30,9,2] ?_
 refine TC.condD rfl (fun hc4 => absurd hc4 (h0)) (fun hc4 => ?_)
 refine zz [0,1,6,3,5] ?_
 refine cl (comade_no cb pb hb qb l ho h hh o hg hk) rfl PkL.p trivial ?_
 intro _ _
 refine zz [57,116,107,9,2] ?_
 refine TC.condD rfl (fun hc5 => absurd hc5 ((by decide))) (fun hc5 => ?_)
 refine zz [42,0,1,6,13,47,12,3,5] ?_
 refine cl (Hd.kill_ok hb l h ho hh) rfl PkL.p trivial ?_
 intro _ _
 refine zz [57,2,0,1,6,13,62,12,3,142,5,72] ?_
 intro b5
 refine e rfl ?_
 refine cl (Gr.add_ok qb pd 0 [] (some ⟨b5, 0, none⟩) 1 [h] hpd (by decide) (by decide) (Nat.le_of_ble_eq_true rfl)) rfl PkL.p ⟨_, RdSI.rd (ad := some ⟨b5, 0, none⟩)⟩ ?_
 intro _ _
 refine zz [69,2,0,1,4,2,11] ?_
 exact zc0
def slL (m : Nat → Nat) (t n : Nat) : List Int := ((List.range n).filter fun s => decide (enA m t s ≠ 0)).map fun s : Nat => (s : Int)
theorem slL_yes {m : Nat → Nat} {t n : Nat} (h : enA m t n ≠ 0) : slL m t (n + 1) = slL m t n ++ [(n : Int)] := by
 rw [slL, List.range_succ, List.filter_append, List.map_append]
 simp [slL, h]
theorem slL_no {m : Nat → Nat} {t n : Nat} (h : enA m t n = 0) : slL m t (n + 1) = slL m t n := by
 rw [slL, List.range_succ, List.filter_append, List.map_append]
 simp [slL, h]
theorem slL_len (m : Nat → Nat) (t n : Nat) : (slL m t n).length ≤ n := by
 rw [slL, List.length_map]
 have := List.length_filter_le (fun s => decide (enA m t s ≠ 0)) (List.range n)
 rwa [List.length_range] at this
theorem slL_first {m : Nat → Nat} {t n : Nat} (h1 : ∀ j, j < n → enA m t j ≠ 0) (h2 : ∀ j, n ≤ j → j < 256 → enA m t j = 0) : ∀ k, n + k ≤ 256 → slL m t (n + k) = (List.range n).map fun s : Nat => (s : Int)
 | 0, _ => by
  rw [slL, Nat.add_zero, List.filter_eq_self.2 fun s hs => decide_eq_true (h1 s (List.mem_range.1 hs))]
 | k + 1, hk => by rw [← Nat.add_assoc, slL_no (h2 _ (by omega) (by omega))]; exact slL_first h1 h2 k (by omega)
theorem HL.live {l : List Hd.Pl} {k : Nat} (h : HL l k) (hk : k ≤ 256) : Hd.allL l 1 = (List.range k).map fun i : Nat => (i : Int) := by
 have hz : l.zipIdx = (List.range 256).map fun i => ((l[i]?).getD Hd.zeroPl, i) := by
  apply List.ext_getElem?
  intro i
  rw [List.getElem?_zipIdx, List.getElem?_map]
  by_cases hi : i < 256
  ·rw [List.getElem?_range hi]; simp [List.getElem?_eq_getElem (show i < l.length by rw [h.n]; exact hi)]
  ·rw [List.getElem?_eq_none (by rw [h.n]; omega), List.getElem?_eq_none (by rw [List.length_range]; omega)]; rfl
 have hs : List.range 256 = List.range k ++ (List.range (256 - k)).map (k + ·) := by
  have := List.range_add (n := k) (m := 256 - k)
  rwa [show k + (256 - k) = 256 by omega] at this
 rw [Hd.allL, Hd.allT, hz, hs, List.map_append, List.filter_append, List.filter_eq_self.2, List.filter_eq_nil_iff.2, List.append_nil, List.map_map]
 ·apply List.map_congr_left
  intro i hi
  obtain ⟨o, ho⟩ := h.lv i (List.mem_range.1 hi)
  simp [ho]
 ·intro p hp
  rw [List.map_map] at hp
  obtain ⟨i, hi, rfl⟩ := List.mem_map.1 hp
  obtain ⟨o, ho⟩ := h.em (k + i) (Nat.le_add_right _ _) (by have := List.mem_range.1 hi; omega)
  simp [ho]
 ·intro p hp
  obtain ⟨i, hi, rfl⟩ := List.mem_map.1 hp
  obtain ⟨o, ho⟩ := h.lv i (List.mem_range.1 hi)
  simp [ho]
def oneN : Bool → Nat
  | false => 0
  | true => 1
def oneC : Bool → Int → List Value
  | false, _ => []
  | true, j => [.int .i64 1, .int .i64 j]
theorem tslots_ok (tb pb top t : Nat) (S : PS) (hP : PInv top S) (hT : TI top S t) : FSpec Tryz.prog 326 [.pointer (some ⟨tb, 0, none⟩)] noRd [pts tb 285 [.pointer (some ⟨pb, 0, none⟩), .int .i64 0, .int .i64 (t : Int)], isPl pb top S] (fun y : Option Addr × Nat => .slice y.1 (slL S.m t 256).length y.2) (fun _ => True) (fun y => [slc 3 1 y.1 (slL S.m t 256).length y.2 (ints (slL S.m t 256)), pts tb 285 [.pointer (some ⟨pb, 0, none⟩), .int .i64 0, .int .i64 (t : Int)], isPl pb top S]) := by
 refine fI Tryz.func326 Tryz.ntmps326 ?_
 intro F _
 refine zz [44,0,1,35,2,0,1,35,2,0,0,1,3,2,17] ?_
 refine TC.loop (ι := Nat × Option Addr × Nat) (fun s => s.1 ≤ 256) (fun s => [(0, .pointer (some ⟨tb, 0, none⟩)), (3, .slice s.2.1 (slL S.m t s.1).length s.2.2), (7, .int .i64 ((s.1 : Nat) : Int))]) (fun s => sepL [slc 3 1 s.2.1 (slL S.m t s.1).length s.2.2 (ints (slL S.m t s.1)), pts tb 285 [.pointer (some ⟨pb, 0, none⟩), .int .i64 0, .int .i64 (t : Int)], isPl pb top S, F]) (fun s => 256 - s.1) (0, none, 0) (Nat.zero_le _) ⟨rfl, rfl, rfl, trivial⟩ ((slc_nil 3 1 _).trans (ent_take 0 rfl (ent_take 0 rfl (ent_take 0 rfl (ent_take 0 rfl (ent_nil _)))))) ?_
 rintro ⟨n, ad, cap⟩ hn ρ0
 dsimp only [updL] at hn ⊢
 have hll := slL_len S.m t n
 refine zz [0,1,38,2,0] ?_
 first | refine TC.condD rfl (fun hlt => ?_) (fun hlt => ?_) | refine TC.cond rfl (fun hlt => ?_) (fun hlt => ?_)
 ·have hn2 : n < 256 := by omega
  refine zz [7,0,17,0,1,3,4,2,0,1,6,3,5] ?_
  refine cl (tget_ok tb pb top 0 t S hP hT n hn2) rfl PkL.p trivial ?_
  intro _ _
  refine zz [46,26,15,15,4,4,2,0,1,3,23,2] ?_
  first | refine TC.condD rfl (fun h0 => ?_) (fun h0 => ?_) | refine TC.cond rfl (fun h0 => ?_) (fun h0 => ?_)
  ·have hn3 := slL_yes (m := S.m) (t := t) (n := n) (by omega)
   refine zz [1,29,3,5,72] ?_
   intro b1
   refine e rfl ?_
   refine ap 8 rfl rfl rfl rfl rfl (Nat.le_of_ble_eq_true rfl) (show _ = ints [(n : Int)] from rfl) rfl (by omega) (by simp only [maxLen]; omega) ?_
   intro ad1 cap1
   refine zz [35,63,1,36,3,2] ?_
   exact ⟨rfl, (n + 1, ad1, cap1), (by dsimp only; omega), (by dsimp only; omega), ⟨rfl, congrArg (fun n => Value.slice _ n _) (by dsimp only; rw [hn3, List.length_append]; rfl), rfl, trivial⟩, (ent_takeE 0 rfl (by dsimp only; rw [hn3, ints_app1, List.length_append]; rfl) entS)⟩
  ·have hn3 := slL_no (m := S.m) (t := t) (n := n) (by omega)
   refine zz [42,1,36,3,2] ?_
   exact ⟨rfl, (n + 1, ad, cap), (by dsimp only; omega), (by dsimp only; omega), ⟨rfl, congrArg (fun n => Value.slice _ n _) (by dsimp only; rw [hn3]), rfl, trivial⟩, (ent_takeE 2 rfl (by dsimp only; rw [hn3]) (ent_take 0 rfl (ent_take 0 rfl (ent_take 0 rfl (ent_nil _)))))⟩
 ·obtain rfl : n = 256 := by omega
  refine zz [50,0,1,29,35,2,11] ?_
  exact Ret.i (ad, cap) [_] ⟨rfl, trivial⟩ rfl trivial entS
theorem spside_no (sb fb cb pb hb qb : Nat) (l : List Hd.Pl) (ho : Hd.OkT l) (h : Int) (hh : 0 ≤ h ∧ h ≤ 4294967295) (o : Hd.Ob) (hg : Hd.getR l h = (o, 0)) (hk : o.k ≠ 2) : FSpec Tryz.prog 47 [.pointer (some ⟨sb, 0, none⟩), .int .u32 h] noRd [pts sb 117 [.pointer (some ⟨cb, 0, none⟩), .pointer (some ⟨fb, 0, none⟩)], pts cb 87 [.pointer (some ⟨pb, 0, none⟩), .pointer (some ⟨hb, 0, none⟩), .pointer (some ⟨qb, 0, none⟩)], slc 174 5 (some ⟨hb, 0, none⟩) 256 256 (Hd.tabC l)] (fun _ : Unit => .tuple #[.agg #[.pointer none, .int .u32 0, .int .i64 0], .int .i64 10]) (fun _ => True) (fun _ => [pts sb 117 [.pointer (some ⟨cb, 0, none⟩), .pointer (some ⟨fb, 0, none⟩)], pts cb 87 [.pointer (some ⟨pb, 0, none⟩), .pointer (some ⟨hb, 0, none⟩), .pointer (some ⟨qb, 0, none⟩)], slc 174 5 (some ⟨hb, 0, none⟩) 256 256 (Hd.tabC l)]) := by
 refine fI Tryz.func47 Tryz.ntmps47 ?_
 intro F _
 refine zz [77,0,1,5] ?_
 refine al (l := [.pointer _, .int _ _, .int _ _]) rfl rfl ?_
 intro b2
 refine zz [4,2,0,0,1,6,34,2,10,7,0,1,6,13,14,12,3,5] ?_
 refine cl (coof_kind cb pb hb qb l ho h hh o hg 2 ⟨by decide, hk⟩) rfl PkL.p trivial ?_
 intro _ _
 refine zz [57,26,75,15,5] ?_
 refine al (l := [.int _ _, .int _ _, .int _ _]) rfl rfl ?_
 intro b3
 refine zz [21,48,4,2,0,0,1,3,23,2,40,0,1,249,3,21,48,4,2,51] ?_
 exact zc6
theorem spslots_no (sb fb cb pb hb qb : Nat) (l : List Hd.Pl) (ho : Hd.OkT l) (h : Int) (hh : 0 ≤ h ∧ h ≤ 4294967295) (o : Hd.Ob) (hg : Hd.getR l h = (o, 0)) (hk : o.k ≠ 2) : FSpec Tryz.prog 304 [.pointer (some ⟨sb, 0, none⟩), .int .u32 h] noRd [pts sb 117 [.pointer (some ⟨cb, 0, none⟩), .pointer (some ⟨fb, 0, none⟩)], pts cb 87 [.pointer (some ⟨pb, 0, none⟩), .pointer (some ⟨hb, 0, none⟩), .pointer (some ⟨qb, 0, none⟩)], slc 174 5 (some ⟨hb, 0, none⟩) 256 256 (Hd.tabC l)] (fun _ : Unit => .slice none 0 0) (fun _ => True) (fun _ => [pts sb 117 [.pointer (some ⟨cb, 0, none⟩), .pointer (some ⟨fb, 0, none⟩)], pts cb 87 [.pointer (some ⟨pb, 0, none⟩), .pointer (some ⟨hb, 0, none⟩), .pointer (some ⟨qb, 0, none⟩)], slc 174 5 (some ⟨hb, 0, none⟩) 256 256 (Hd.tabC l)]) := by
 refine fI Tryz.func304 Tryz.ntmps304 ?_
 intro F _
 refine zz [77,0,1,35,2,0,1,6,3,5] ?_
 refine cl (spside_no sb fb cb pb hb qb l ho h hh o hg hk) rfl PkL.p trivial ?_
 intro _ _
 refine zz [46,26,75,15,5] ?_
 refine al (l := [.pointer _, .int _ _, .int _ _]) rfl rfl ?_
 intro b4
 refine zz [21,48,4,2,0,0,1,3,23,2,40,0,1,35,2,51] ?_
 exact zc0
theorem spwipe_no (sb fb cb pb hb qb : Nat) (l : List Hd.Pl) (ho : Hd.OkT l) (h : Int) (hh : 0 ≤ h ∧ h ≤ 4294967295) (o : Hd.Ob) (hg : Hd.getR l h = (o, 0)) (hk : o.k ≠ 2) : FSpec Tryz.prog 272 [.pointer (some ⟨sb, 0, none⟩), .int .u32 h] noRd [pts sb 117 [.pointer (some ⟨cb, 0, none⟩), .pointer (some ⟨fb, 0, none⟩)], pts cb 87 [.pointer (some ⟨pb, 0, none⟩), .pointer (some ⟨hb, 0, none⟩), .pointer (some ⟨qb, 0, none⟩)], slc 174 5 (some ⟨hb, 0, none⟩) 256 256 (Hd.tabC l)] (fun _ : Unit => .int .i64 0) (fun _ => True) (fun _ => [pts sb 117 [.pointer (some ⟨cb, 0, none⟩), .pointer (some ⟨fb, 0, none⟩)], pts cb 87 [.pointer (some ⟨pb, 0, none⟩), .pointer (some ⟨hb, 0, none⟩), .pointer (some ⟨qb, 0, none⟩)], slc 174 5 (some ⟨hb, 0, none⟩) 256 256 (Hd.tabC l)]) := by
 refine fI Tryz.func272 Tryz.ntmps272 ?_
 intro F _
 refine zz [77,0,1,4,2,0,1,4,2,0,0,1,6,3,5] ?_
 refine cl (spslots_no sb fb cb pb hb qb l ho h hh o hg hk) rfl PkL.p trivial ?_
 intro _ _
 refine zz [46,91,3,2,17] ?_
 refine TC.loop (ι := Unit) (fun q7 => True) (fun q7 => [(5, .int .i64 0), (12, .int .i64 ((0 : Nat) : Int)), (13, .int .i64 0)]) (fun q7 => sepL [pts sb 117 [.pointer (some ⟨cb, 0, none⟩), .pointer (some ⟨fb, 0, none⟩)], pts cb 87 [.pointer (some ⟨pb, 0, none⟩), .pointer (some ⟨hb, 0, none⟩), .pointer (some ⟨qb, 0, none⟩)], slc 174 5 (some ⟨hb, 0, none⟩) 256 256 (Hd.tabC l), F]) (fun q7 => 0) () trivial ⟨rfl, rfl, rfl, trivial⟩ entS ?_
 rintro _ _ ρ0
 dsimp only [updL]
 refine zz [0,1,38,2,0] ?_
 refine TC.condD rfl (fun hc1 => absurd hc1 ((by decide))) (fun hc1 => ?_)
 refine zz [50,0,1,3,4,2,11] ?_
 exact zc0
theorem sphold_ok (sb fb cb pb hb qb : Nat) (top t : Nat) (S : PS) (l : List Hd.Pl) (ho : Hd.OkT l) (hg1 : Hd.getR l 1 = (ob 2 t 0, 0)) (hP : PInv top S) (hT : TI top S t) (n : Nat) (hn : 2 ≤ n ∧ n ≤ 256) (hsl : slL S.m t 256 = (List.range n).map fun s : Nat => (s : Int)) (hen : ∀ j, j < n → enA S.m t j = packN j 15) (hlv : Hd.allL l 1 = (List.range n).map fun s : Nat => (s : Int)) (hkd : ∀ j, j < n → ∃ k a f, Hd.getR l (j : Int) = (ob k a f, 0) ∧ (k = 2 ↔ j = 1)) (j0 : Nat) (hj0 : j0 < n) : FSpec Tryz.prog 305 [.pointer (some ⟨sb, 0, none⟩), .int .u32 (j0 : Int)] GV [pts sb 117 [.pointer (some ⟨cb, 0, none⟩), .pointer (some ⟨fb, 0, none⟩)], pts cb 87 [.pointer (some ⟨pb, 0, none⟩), .pointer (some ⟨hb, 0, none⟩), .pointer (some ⟨qb, 0, none⟩)], isPl pb top S, slc 174 5 (some ⟨hb, 0, none⟩) 256 256 (Hd.tabC l)] (fun y : Option Addr × Nat => .slice y.1 1 y.2) (fun _ => True) (fun y => [slc 216 2 y.1 1 y.2 (oneC true (j0 : Int)), pts sb 117 [.pointer (some ⟨cb, 0, none⟩), .pointer (some ⟨fb, 0, none⟩)], pts cb 87 [.pointer (some ⟨pb, 0, none⟩), .pointer (some ⟨hb, 0, none⟩), .pointer (some ⟨qb, 0, none⟩)], isPl pb top S, slc 174 5 (some ⟨hb, 0, none⟩) 256 256 (Hd.tabC l)]) := by
 refine fI Tryz.func305 Tryz.ntmps305 ?_
 intro F hF
 refine zz [95] ?_
 haveI : GVI F := ⟨hF⟩
 have hal : (Hd.allL l 1).length = n := by rw [hlv, List.length_map, List.length_range]
 have hsll : (slL S.m t 256).length = n := by rw [hsl, List.length_map, List.length_range]
 refine zz [0,1,35,2,0,1,35,2,0,0,1,6,34,2,10,7,0,0,1,6,13,14,12,5] ?_
 refine cl (colive_ok cb pb hb qb l ho) rfl PkL.p trivial ?_
 intro y _
 refine zz [69] ?_
 rw [hal]
 refine zz [116,3,2,17] ?_
 refine TC.loop (ι := Nat × Bool × Option Addr × Nat) (fun s => s.1 ≤ n ∧ s.2.1 = decide (1 < s.1)) (fun s => [(0, .pointer (some ⟨sb, 0, none⟩)), (1, .int .u32 (j0 : Int)), (20, .slice y.1 n y.2), (21, .int .i64 (n : Int)), (5, .slice s.2.2.1 (oneN s.2.1) s.2.2.2), (22, .int .i64 ((s.1 : Nat) : Int))]) (fun s => sepL [slc 216 2 s.2.2.1 (oneN s.2.1) s.2.2.2 (oneC s.2.1 (j0 : Int)), slc 56 1 y.1 n y.2 (nums .u32 (Hd.allL l 1)), pts sb 117 [.pointer (some ⟨cb, 0, none⟩), .pointer (some ⟨fb, 0, none⟩)], pts cb 87 [.pointer (some ⟨pb, 0, none⟩), .pointer (some ⟨hb, 0, none⟩), .pointer (some ⟨qb, 0, none⟩)], isPl pb top S, slc 174 5 (some ⟨hb, 0, none⟩) 256 256 (Hd.tabC l), F]) (fun s => n - s.1) (0, false, none, 0) ⟨Nat.zero_le _, rfl⟩ ⟨rfl, rfl, rfl, rfl, rfl, rfl, trivial⟩ ((slc_nil 216 2 _).trans entS) ?_
 rintro ⟨i, b, ad, cap⟩ ⟨hi, hbb⟩ ρ0
 dsimp only [updL] at hi hbb ⊢
 refine zz [0,1,38,2,0] ?_
 first | refine TC.condD rfl (fun hlt => ?_) (fun hlt => ?_) | refine TC.cond rfl (fun hlt => ?_) (fun hlt => ?_)
 ·have hi2 : i < n := by omega
  have hli : (Hd.allL l 1)[i]? = some (i : Int) := by rw [hlv, List.getElem?_map, List.getElem?_range hi2]; rfl
  have hpos : 0 < (nums .u32 (Hd.allL l 1)).length := by rw [nums_length]; omega
  have hin : i < (nums .u32 (Hd.allL l 1)).length := by rw [nums_length]; omega
  refine zz [7,0,17,0,1,167] ?_
  first | refine q rfl rfl (ld rfl rfl rfl) ?_ | refine q rfl rfl (ldS rfl rfl (nums_get hli)) ?_ | refine q rfl rfl (ldS rfl rfl rfl) ?_
  refine zz [4,2,0] ?_
  by_cases h1 : i = 1
  ·subst h1
   obtain rfl : b = false := hbb
   refine zz [1,6,3,5] ?_
   refine cl (spside_ok sb fb cb pb hb qb top t S l ho hg1 hP hT) rfl PkL.p GVI.gv ?_
   intro tb _
   refine zz [53,26,75,15,5] ?_
   refine al (l := [.pointer _, .int _ _, .int _ _]) rfl rfl ?_
   intro b6
   refine zz [21,48,4,2,0,0,1,3,23,2,10,7,0,1,14] ?_
   first | refine q rfl rfl (ld rfl rfl rfl) ?_ | refine q rfl rfl (ldS rfl rfl (nums_get hli)) ?_ | refine q rfl rfl (ldS rfl rfl rfl) ?_
   refine e rfl ?_
   refine cl (tslots_ok tb pb top t S hP hT) rfl PkL.p trivial ?_
   intro w _
   refine zz [86] ?_
   rw [hsll]
   refine zz [91,3,2,17] ?_
   refine TC.loop (ι := Nat × Bool × Option Addr × Nat) (fun s => s.1 ≤ n ∧ s.2.1 = decide (j0 < s.1)) (fun s => [(0, .pointer (some ⟨sb, 0, none⟩)), (1, .int .u32 (j0 : Int)), (20, .slice y.1 n y.2), (21, .int .i64 (n : Int)), (5, .slice s.2.2.1 (oneN s.2.1) s.2.2.2), (7, .int .u32 1), (8, .pointer (some ⟨b6, 0, none⟩)), (22, .int .i64 1), (36, .slice w.1 n w.2), (37, .int .i64 (n : Int)), (38, .int .i64 ((s.1 : Nat) : Int))]) (fun s => sepL [slc 216 2 s.2.2.1 (oneN s.2.1) s.2.2.2 (oneC s.2.1 (j0 : Int)), slc 3 1 w.1 n w.2 (ints (slL S.m t 256)), pts b6 136 [.pointer (some ⟨tb, 0, none⟩), .int .u32 1, .int .i64 0], slc 56 1 y.1 n y.2 (nums .u32 (Hd.allL l 1)), pts sb 117 [.pointer (some ⟨cb, 0, none⟩), .pointer (some ⟨fb, 0, none⟩)], pts cb 87 [.pointer (some ⟨pb, 0, none⟩), .pointer (some ⟨hb, 0, none⟩), .pointer (some ⟨qb, 0, none⟩)], pts tb 285 [.pointer (some ⟨pb, 0, none⟩), .int .i64 0, .int .i64 (t : Int)], isPl pb top S, slc 174 5 (some ⟨hb, 0, none⟩) 256 256 (Hd.tabC l), F]) (fun s => n - s.1) (0, false, ad, cap) ⟨Nat.zero_le _, rfl⟩ ⟨rfl, rfl, rfl, rfl, rfl, rfl, rfl, rfl, rfl, rfl, rfl, trivial⟩ entS ?_
   rintro ⟨j, b, ad2, cap2⟩ ⟨hj, hb2⟩ ρ1
   dsimp only [updL] at hj hb2 ⊢
   refine zz [0,1,38,2,0] ?_
   first | refine TC.condD rfl (fun hlt2 => ?_) (fun hlt2 => ?_) | refine TC.cond rfl (fun hlt2 => ?_) (fun hlt2 => ?_)
   ·have hj2 : j < n := by omega
    have hlj : (slL S.m t 256)[j]? = some (j : Int) := by rw [hsl, List.getElem?_map, List.getElem?_range hj2]; rfl
    have hpos2 : 0 < (ints (slL S.m t 256)).length := by rw [ints_length]; omega
    have hin2 : j < (ints (slL S.m t 256)).length := by rw [ints_length]; omega
    refine zz [7,0,17,0,1,81] ?_
    first | refine q rfl rfl (ld rfl rfl rfl) ?_ | refine q rfl rfl (ldS rfl rfl (ints_get hlj)) ?_ | refine q rfl rfl (ldS rfl rfl rfl) ?_
    refine zz [4,2,0,1] ?_
    first | refine q rfl rfl (ldN (vs := [_, _, _]) 3 rfl rfl rfl rfl) ?_ | refine q rfl rfl (ldSN (vs := [_, _, _]) 3 rfl rfl (ints_get hlj) rfl (by decide)) ?_ | refine q rfl rfl (ldSN (vs := [_, _, _]) 3 rfl rfl rfl rfl (by decide)) ?_
    refine zz [3,5] ?_
    refine cl (spcap_ok tb pb top t S hP hT j (by omega) j 15 (by omega) (by decide) (hen j hj2)) rfl PkL.p trivial ?_
    intro _ _
    refine zz [86,26,101,80,5] ?_
    refine al (l := [.int _ _, .int _ _]) rfl rfl ?_
    intro b7
    refine zz [21,67,9,2,0,1,14,12,3,30,2] ?_
    first | refine TC.condD rfl (fun heq => ?_) (fun heq => ?_) | refine TC.cond rfl (fun heq => ?_) (fun heq => ?_)
    ·obtain rfl : j = j0 := by omega
     obtain rfl : b = false := by rw [hb2]; exact decide_eq_false (Nat.lt_irrefl _)
     dsimp only [oneN, oneC]
     refine zz [1,29,3,142,3,73,5,114] ?_
     intro b8
     refine zz [5,257] ?_
     intro ad2 cap2
     refine zz [35,63,1,36,3,2] ?_
     exact ⟨rfl, (j + 1, true, ad2, cap2), ⟨by dsimp only; omega, (decide_eq_true (by dsimp only; omega)).symm⟩, (by dsimp only; omega), ⟨rfl, rfl, rfl, rfl, rfl, rfl, rfl, rfl, rfl, rfl, rfl, trivial⟩, entS⟩
    ·refine zz [42,1,36,3,2] ?_
     exact ⟨rfl, (j + 1, b, ad2, cap2), ⟨by dsimp only; omega, by rw [hb2]; exact decide_eq_decide.2 (by dsimp only; omega)⟩, (by dsimp only; omega), ⟨rfl, rfl, rfl, rfl, rfl, rfl, rfl, rfl, rfl, rfl, rfl, trivial⟩, entS⟩
   ·obtain rfl : b = true := by rw [hb2]; exact decide_eq_true (by omega)
    refine TC.exit (et (et (eb (nb (nt ?_)))))
    refine zz [1,36,3,2] ?_
    exact ⟨rfl, (2, true, ad2, cap2), ⟨hn.1, rfl⟩, (by dsimp only; omega), ⟨rfl, rfl, rfl, rfl, rfl, rfl, trivial⟩, entS⟩
  ·obtain ⟨k, a9, f9, hgi, hki⟩ := hkd i hi2
   have hk2 : k ≠ 2 := fun e => h1 (hki.1 e)
   refine zz [1,6,3,5] ?_
   refine cl (spside_no sb fb cb pb hb qb l ho (i : Int) (by omega) (ob k a9 f9) hgi hk2) rfl PkL.p trivial ?_
   intro _ _
   refine zz [49,26,75,15,5] ?_
   refine al (l := [.pointer _, .int _ _, .int _ _]) rfl rfl ?_
   intro b5
   refine zz [21,48,4,2,0,0,1,3,23,2,40] ?_
   refine TC.exit (et (eb (nt ?_)))
   refine zz [1,36,3,2] ?_
   exact ⟨rfl, (i + 1, b, ad, cap), ⟨by dsimp only; omega, by rw [hbb]; exact decide_eq_decide.2 (by dsimp only; omega)⟩, (by dsimp only; omega), ⟨rfl, rfl, rfl, rfl, rfl, rfl, trivial⟩, entS⟩
 ·obtain rfl : b = true := by rw [hbb]; exact decide_eq_true (by omega)
  refine zz [50,0,1,29,35,2,11] ?_
  exact Ret.i (ad, cap) [_] ⟨rfl, trivial⟩ rfl trivial entS
theorem one_of {many : Nat} {L : List Pg} (h : L.length ≤ 1) {p : Pg} (hp : p ∈ L) : OneAt many L p.pn := by
 intro q hq hne
 exfalso
 match L, h, hp, hq with
 | [x], _, hp, hq =>
  rw [List.mem_singleton.1 hp, List.mem_singleton.1 hq] at hne
  exact hne rfl
theorem spbare_k (sb fb cb pb hb qb : Nat) (tb : Nat) (top t : Nat) (S : PS) (hP : PInv top S) (hT : TI top S t) (s : Nat) (hs : s < 256) (hA : enA S.m t s ≠ 0) (h0 : rtW S.m t (s / 16) ≠ 0) (hz : ∃ i, i < 16 ∧ i ≠ s % 16 ∧ ldW S.m (rtW S.m t (s / 16) + i * 16) ≠ 0) (hnd : Plc 48 (S.C 6) (enB S.m t s)) (lim u : Int) (r0 : List Qt.Qn) (hQ : S.Q = ⟨0, -1, lim, u⟩ :: r0) (hr0 : ∀ x ∈ r0, x.id ≠ 0) (h48 : 48 ≤ u) (hone : (S.C 6).length ≤ 1) : FSpec Tryz.prog 98 [.pointer (some ⟨sb, 0, none⟩), .agg #[.pointer (some ⟨tb, 0, none⟩), .int .u32 1, .int .i64 0], .int .i64 (s : Int)] GV [pts sb 117 [.pointer (some ⟨cb, 0, none⟩), .pointer (some ⟨fb, 0, none⟩)], pts cb 87 [.pointer (some ⟨pb, 0, none⟩), .pointer (some ⟨hb, 0, none⟩), .pointer (some ⟨qb, 0, none⟩)], pts tb 285 [.pointer (some ⟨pb, 0, none⟩), .int .i64 0, .int .i64 (t : Int)], isPl pb top S] (fun _ : Unit => .tuple #[]) (fun _ => True) (fun _ => [pts sb 117 [.pointer (some ⟨cb, 0, none⟩), .pointer (some ⟨fb, 0, none⟩)], pts cb 87 [.pointer (some ⟨pb, 0, none⟩), .pointer (some ⟨hb, 0, none⟩), .pointer (some ⟨qb, 0, none⟩)]]) := by
 refine fI Tryz.func98 Tryz.ntmps98 ?_
 intro F hF
 refine zz [95] ?_
 haveI : GVI F := ⟨hF⟩
 have htp : 2 ^ top ≤ 128 := Nat.pow_le_pow_right (n := 2) (by decide) hP.tp.2
 have e6 : clsz 6 = 48 := rfl
 have hbd := Plc.bd hP c6 (show Plc (clsz 6) (S.C 6) (enB S.m t s) from hnd)
 obtain ⟨k, pn, i, f, hk, hf, hB⟩ := hnd.at
 have h1one : OneAt (960 / clsz 6) (S.C 6) pn := one_of hone (p := ⟨pn, f⟩) (List.mem_of_getElem? hk)
 have hr1 : Qt.refundQ S.Q 0 (clsz 6 : Int) = (⟨0, -1, lim, u - 48⟩ :: r0, 0) := by
  rw [hQ, e6]
  have := refund0 (lim := lim) (u := u - 48) (c := 48) hr0 (by decide) (by omega)
  rwa [show u - 48 + 48 = u by omega] at this
 refine zz [0,1,5] ?_
 refine bx (v := .agg #[_, _, _]) (l := [.pointer _, .int _ _, .int _ _]) rfl rfl ?_
 intro b1
 refine zz [2,0,1,14,12,3,5] ?_
 refine cl (tget_ok tb pb top 0 t S hP hT s hs) rfl PkL.p trivial ?_
 intro _ _
 refine zz [69] ?_
 rw [hB]
 refine zz [26,15,15,4,4,2,0,1,14,12,3,5] ?_
 refine cl (tclear_stay tb pb top 0 t S hP hT s hs h0 hA hz) rfl PkL.p GVI.gv ?_
 intro _ _
 refine zz [69] ?_
 obtain ⟨S2, e1⟩ : ∃ S2 : PS, S2 = ⟨S.Q, S.nx, S.C, S.Fr, stWs S.m (rtW S.m t (s / 16) + s % 16 * 16) [0, 0]⟩ := ⟨_, rfl⟩
 rw [← e1]
 have hC6 : S2.C 6 = S.C 6 := by rw [e1]
 rw [← hC6] at hk h1one
 have hQ3 : S2.Q = S.Q := by rw [e1]
 refine TL.nil (nt ?_)
 refine TC.draw _ [] [(0, false), (1, false), (2, false), (3, false), (5, false), (6, false), (7, false), (8, false), (4, true), (9, true)] (by kernel_rfl) (by kernel_rfl) (show ent (sepL _) (sepL [pts b1 136 [.pointer (some ⟨tb, 0, none⟩), .int .u32 1, .int .i64 0], pts sb 117 [.pointer (some ⟨cb, 0, none⟩), .pointer (some ⟨fb, 0, none⟩)]]) from entS) ?_
 refine zz [28,31,25,18,58,18,33,192,16] ?_
 refine cl (comem_ok cb pb hb qb) rfl PkL.p trivial ?_
 intro _ _
 refine zz [99,8,16] ?_
 refine cl (plput_ok pb top S2 6 c6 k pn i f hk hf 0 (by rw [hQ3, hr1]) h1one) rfl PkL.p GVI.gv ?_
 intro L' hG
 refine zz [99,8] ?_
 refine TD.nil ?_
 exact Ret.n () [] trivial rfl trivial entS
theorem spweak_k (sb fb cb pb hb qb : Nat) (top t : Nat) (S : PS) (hP : PInv top S) (hT : TI top S t) (s : Nat) (hs : s < 256) (l : List Hd.Pl) (ho : Hd.OkT l) (hg1 : Hd.getR l 1 = (ob 2 t 0, 0)) (h : Nat) (hh : h < 4294967295) (hA : enA S.m t s = packN h 15) (hz : ∃ i, i < 16 ∧ i ≠ s % 16 ∧ ldW S.m (rtW S.m t (s / 16) + i * 16) ≠ 0) (hnd : Plc 48 (S.C 6) (enB S.m t s)) (lim u : Int) (r0 : List Qt.Qn) (hQ : S.Q = ⟨0, -1, lim, u⟩ :: r0) (hr0 : ∀ x ∈ r0, x.id ≠ 0) (h48 : 48 ≤ u) (hone : (S.C 6).length ≤ 1) (L : List Fo.Fn) (last id : Int) (hll : L.length ≤ 1000000) (hown : Fo.ownN L id = (1, (s : Int), true)) : FSpec Tryz.prog 235 [.pointer (some ⟨sb, 0, none⟩), .int .i64 id, .int .i64 15] GV [pts sb 117 [.pointer (some ⟨cb, 0, none⟩), .pointer (some ⟨fb, 0, none⟩)], pts cb 87 [.pointer (some ⟨pb, 0, none⟩), .pointer (some ⟨hb, 0, none⟩), .pointer (some ⟨qb, 0, none⟩)], isPl pb top S, slc 174 5 (some ⟨hb, 0, none⟩) 256 256 (Hd.tabC l), Fo.isF fb L last] (fun _ : Unit => .bool true) (fun _ => True) (fun _ => [pts sb 117 [.pointer (some ⟨cb, 0, none⟩), .pointer (some ⟨fb, 0, none⟩)], pts cb 87 [.pointer (some ⟨pb, 0, none⟩), .pointer (some ⟨hb, 0, none⟩), .pointer (some ⟨qb, 0, none⟩)], slc 174 5 (some ⟨hb, 0, none⟩) 256 256 (Hd.tabC l)]) := by
 refine fI Tryz.func235 Tryz.ntmps235 ?_
 intro F hF
 refine zz [82] ?_
 haveI : GVI F := ⟨hF⟩
 have hpk := packN_lt (r := 15) hh (by decide)
 have hA0 : enA S.m t s ≠ 0 := by omega
 have h0 : rtW S.m t (s / 16) ≠ 0 := fun e => hA0 (by rw [enA, if_pos e])
 refine zz [0,1,9,2,0,1,6,13,47,12,3,5] ?_
 refine cl (Fo.fowner_ok fb L last id) rfl PkL.p trivial ?_
 intro _ _
 refine zz [69] ?_
 rw [hown]
 dsimp only
 refine zz [26,15,15,80,4,4,9,2,0,1,6,3] ?_
 first | refine q rfl rfl (conv .i64 .u32 rfl rfl rfl rfl) ?_ | refine q rfl rfl (conv .i64 .u32 rfl rfl rfl (wu32 (by decide) (by decide))) ?_
 refine e rfl ?_
 refine cl (spside_ok sb fb cb pb hb qb top t S l ho hg1 hP hT) rfl PkL.p GVI.gv ?_
 intro tb _
 refine zz [49,26,75,15,5] ?_
 refine al (l := [.pointer _, .int _ _, .int _ _]) rfl rfl ?_
 intro b2
 refine zz [21,48,4,2,0,0,1,3,23,2,10,7,0,1,76,3,5] ?_
 refine cl (spcap_ok tb pb top t S hP hT s hs h 15 hh (by decide) hA) rfl PkL.p trivial ?_
 intro _ _
 refine zz [53,26,101,80,5] ?_
 refine al (l := [.int _ _, .int _ _]) rfl rfl ?_
 intro b3
 refine zz [21,67,9,2,0,1,47,12,3] ?_
 refine q rfl rfl (pu (v := .int .i64 0) (fun _ => rfl)) ?_
 refine zz [47,21,105,2,0,0,1,47,12,23,2,10,7,0,1,6,13,47,12,3,5] ?_
 refine cl (Fo.flift_ok fb L last id hll) rfl PkL.p trivial ?_
 intro _ _
 refine zz [45,2,0,1,6,76,3,5] ?_
 refine cl (spbare_k sb fb cb pb hb qb tb top t S hP hT s hs hA0 h0 hz hnd lim u r0 hQ hr0 h48 hone) rfl PkL.p GVI.gv ?_
 intro _ _
 refine zz [49,2,0,1,9,2,11] ?_
 exact zc0
theorem spweakall_k (sb fb cb pb hb qb : Nat) (top t : Nat) (S : PS) (hP : PInv top S) (hT : TI top S t) (s : Nat) (hs : s < 256) (l : List Hd.Pl) (ho : Hd.OkT l) (hg1 : Hd.getR l 1 = (ob 2 t 0, 0)) (h : Nat) (hh : h < 4294967295) (hA : enA S.m t s = packN h 15) (hz : ∃ i, i < 16 ∧ i ≠ s % 16 ∧ ldW S.m (rtW S.m t (s / 16) + i * 16) ≠ 0) (hnd : Plc 48 (S.C 6) (enB S.m t s)) (lim u : Int) (r0 : List Qt.Qn) (hQ : S.Q = ⟨0, -1, lim, u⟩ :: r0) (hr0 : ∀ x ∈ r0, x.id ≠ 0) (h48 : 48 ≤ u) (hone : (S.C 6).length ≤ 1) (L : List Fo.Fn) (last id : Int) (hll : L.length ≤ 1000000) (hown : Fo.ownN L id = (1, (s : Int), true)) (ad : Option Addr) (cap : Nat) : FSpec Tryz.prog 195 [.pointer (some ⟨sb, 0, none⟩), .int .i64 15, .slice ad 1 cap] (fun F => GV F ∧ ∃ E, RdS F E ad (ints [id])) [pts sb 117 [.pointer (some ⟨cb, 0, none⟩), .pointer (some ⟨fb, 0, none⟩)], pts cb 87 [.pointer (some ⟨pb, 0, none⟩), .pointer (some ⟨hb, 0, none⟩), .pointer (some ⟨qb, 0, none⟩)], isPl pb top S, slc 174 5 (some ⟨hb, 0, none⟩) 256 256 (Hd.tabC l), Fo.isF fb L last] (fun _ : Unit => .int .i64 1) (fun _ => True) (fun _ => [pts sb 117 [.pointer (some ⟨cb, 0, none⟩), .pointer (some ⟨fb, 0, none⟩)], pts cb 87 [.pointer (some ⟨pb, 0, none⟩), .pointer (some ⟨hb, 0, none⟩), .pointer (some ⟨qb, 0, none⟩)], slc 174 5 (some ⟨hb, 0, none⟩) 256 256 (Hd.tabC l)]) := by
 refine fI Tryz.func195 Tryz.ntmps195 ?_
 intro F ⟨hF, E9, hS9⟩
 refine zz [82] ?_
 haveI : GVI F := ⟨hF⟩
 haveI : RdSI F ad E9 (ints [id]) := ⟨hS9⟩
 refine zz [0,1,4,2,0,1,4,2,0,0,1,29,91,3,2,17] ?_
 refine TC.loop (ι := Bool) (fun s9 => True) (fun s9 => [(0, .pointer (some ⟨sb, 0, none⟩)), (1, .int .i64 15), (7, .int .i64 ((oneN s9 : Nat) : Int)), (10, .slice ad 1 cap), (11, .int .i64 ((1 : Nat) : Int)), (12, .int .i64 ((oneN s9 : Nat) : Int))]) (fun s9 => sepL [(EX fun _ : Unit => pure' True (sepL (if s9 then [pts sb 117 [.pointer (some ⟨cb, 0, none⟩), .pointer (some ⟨fb, 0, none⟩)], pts cb 87 [.pointer (some ⟨pb, 0, none⟩), .pointer (some ⟨hb, 0, none⟩), .pointer (some ⟨qb, 0, none⟩)], slc 174 5 (some ⟨hb, 0, none⟩) 256 256 (Hd.tabC l)] else [pts sb 117 [.pointer (some ⟨cb, 0, none⟩), .pointer (some ⟨fb, 0, none⟩)], pts cb 87 [.pointer (some ⟨pb, 0, none⟩), .pointer (some ⟨hb, 0, none⟩), .pointer (some ⟨qb, 0, none⟩)], isPl pb top S, slc 174 5 (some ⟨hb, 0, none⟩) 256 256 (Hd.tabC l), Fo.isF fb L last]))), F]) (fun s9 => 1 - oneN s9) false trivial ⟨rfl, rfl, rfl, rfl, rfl, rfl, trivial⟩ (ent_close () trivial entS) ?_
 rintro s9 _ ρ0
 dsimp only [updL]
 cases s9
 ·change TC _ _ _ _ _ _ _ (sepL [EX fun _ : Unit => pure' True (sepL [pts sb 117 [.pointer (some ⟨cb, 0, none⟩), .pointer (some ⟨fb, 0, none⟩)], pts cb 87 [.pointer (some ⟨pb, 0, none⟩), .pointer (some ⟨hb, 0, none⟩), .pointer (some ⟨qb, 0, none⟩)], isPl pb top S, slc 174 5 (some ⟨hb, 0, none⟩) 256 256 (Hd.tabC l), Fo.isF fb L last]), F])
  refine TC.open 0 rfl (fun x0 hx0 => ?_)
  obtain ⟨⟩ := x0
  clear hx0
  refine zz [82] ?_
  dsimp only [oneN]
  have hpos : 0 < (ints [id]).length := Nat.one_pos
  refine zz [0,1,38,2,0] ?_
  refine TC.condD rfl (fun hc1 => ?_) (fun hc1 => absurd ((by decide)) hc1)
  refine zz [7,0,17,0,1,81] ?_
  first | refine q rfl rfl (ld rfl rfl rfl) ?_ | refine q rfl rfl (ldS rfl rfl (ints_get (xs := [id]) (i := 0) rfl)) ?_ | refine q rfl rfl (ldS rfl rfl rfl) ?_
  refine zz [4,2,0,1,6,3,3,5] ?_
  refine cl (spweak_k sb fb cb pb hb qb top t S hP hT s hs l ho hg1 h hh hA hz hnd lim u r0 hQ hr0 h48 hone L last id hll hown) rfl PkL.p GVI.gv ?_
  intro _ _
  refine zz [46,2,40,1,3,36,4,63,1,36,3,2] ?_
  exact ⟨rfl, true, trivial, (by decide), ⟨rfl, rfl, rfl, rfl, rfl, rfl, trivial⟩, (ent_close () trivial entS)⟩
 ·change TC _ _ _ _ _ _ _ (sepL [EX fun _ : Unit => pure' True (sepL [pts sb 117 [.pointer (some ⟨cb, 0, none⟩), .pointer (some ⟨fb, 0, none⟩)], pts cb 87 [.pointer (some ⟨pb, 0, none⟩), .pointer (some ⟨hb, 0, none⟩), .pointer (some ⟨qb, 0, none⟩)], slc 174 5 (some ⟨hb, 0, none⟩) 256 256 (Hd.tabC l)]), F])
  refine TC.open 0 rfl (fun x0 hx0 => ?_)
  obtain ⟨⟩ := x0
  clear hx0
  refine zz [77] ?_
  dsimp only [oneN]
  refine zz [0,1,38,2,0] ?_
  refine TC.condD rfl (fun hc2 => absurd hc2 ((by decide))) (fun hc2 => ?_)
  refine zz [50,0,1,3,4,2,11] ?_
  exact zc0
theorem sppurge_k (sb fb cb pb hb qb : Nat) (top t : Nat) (S : PS) (l : List Hd.Pl) (ho : Hd.OkT l) (hg1 : Hd.getR l 1 = (ob 2 t 0, 0)) (hP : PInv top S) (hT : TI top S t) (n : Nat) (hn : 2 ≤ n ∧ n ≤ 256) (hsl : slL S.m t 256 = (List.range n).map fun s : Nat => (s : Int)) (hen : ∀ j, j < n → enA S.m t j = packN j 15) (hlv : Hd.allL l 1 = (List.range n).map fun s : Nat => (s : Int)) (hkd : ∀ j, j < n → ∃ k a f, Hd.getR l (j : Int) = (ob k a f, 0) ∧ (k = 2 ↔ j = 1)) (s : Nat) (hs : s < n) (hz : ∃ i, i < 16 ∧ i ≠ s % 16 ∧ ldW S.m (rtW S.m t (s / 16) + i * 16) ≠ 0) (hnd : Plc 48 (S.C 6) (enB S.m t s)) (lim u : Int) (r0 : List Qt.Qn) (hQ : S.Q = ⟨0, -1, lim, u⟩ :: r0) (hr0 : ∀ x ∈ r0, x.id ≠ 0) (h48 : 48 ≤ u) (hone : (S.C 6).length ≤ 1) (L : List Fo.Fn) (last id : Int) (hll : L.length ≤ 1000000) (hown : Fo.ownN L id = (1, (s : Int), true)) (hfind : Fo.findO L (1, (s : Int)) = id) : FSpec Tryz.prog 273 [.pointer (some ⟨sb, 0, none⟩), .int .u32 (s : Int)] GV [pts sb 117 [.pointer (some ⟨cb, 0, none⟩), .pointer (some ⟨fb, 0, none⟩)], pts cb 87 [.pointer (some ⟨pb, 0, none⟩), .pointer (some ⟨hb, 0, none⟩), .pointer (some ⟨qb, 0, none⟩)], isPl pb top S, slc 174 5 (some ⟨hb, 0, none⟩) 256 256 (Hd.tabC l), Fo.isF fb L last] (fun _ : Unit => .int .i64 1) (fun _ => True) (fun _ => [pts sb 117 [.pointer (some ⟨cb, 0, none⟩), .pointer (some ⟨fb, 0, none⟩)], pts cb 87 [.pointer (some ⟨pb, 0, none⟩), .pointer (some ⟨hb, 0, none⟩), .pointer (some ⟨qb, 0, none⟩)], slc 174 5 (some ⟨hb, 0, none⟩) 256 256 (Hd.tabC l)]) := by
 refine fI Tryz.func273 Tryz.ntmps273 ?_
 intro F hF
 refine zz [82] ?_
 haveI : GVI F := ⟨hF⟩
 refine zz [0,1,4,2,0,1,4,2,0,0,1,6,3,5] ?_
 refine cl (sphold_ok sb fb cb pb hb qb top t S l ho hg1 hP hT n hn hsl hen hlv hkd s hs) rfl PkL.p GVI.gv ?_
 intro y _
 refine zz [49] ?_
 dsimp only [oneC]
 refine q rfl rfl (len 216 2 rfl rfl) ?_
 refine zz [3,2,17] ?_
 refine TC.loop (ι := Bool) (fun s9 => True) (fun s9 => [(0, .pointer (some ⟨sb, 0, none⟩)), (5, .int .i64 ((oneN s9 : Nat) : Int)), (10, .slice y.1 1 y.2), (11, .int .i64 ((1 : Nat) : Int)), (12, .int .i64 ((oneN s9 : Nat) : Int))]) (fun s9 => sepL [slc 216 2 y.1 1 y.2 [.int .i64 1, .int .i64 (s : Int)], (EX fun _ : Unit => pure' True (sepL (if s9 then [pts sb 117 [.pointer (some ⟨cb, 0, none⟩), .pointer (some ⟨fb, 0, none⟩)], pts cb 87 [.pointer (some ⟨pb, 0, none⟩), .pointer (some ⟨hb, 0, none⟩), .pointer (some ⟨qb, 0, none⟩)], slc 174 5 (some ⟨hb, 0, none⟩) 256 256 (Hd.tabC l)] else [pts sb 117 [.pointer (some ⟨cb, 0, none⟩), .pointer (some ⟨fb, 0, none⟩)], pts cb 87 [.pointer (some ⟨pb, 0, none⟩), .pointer (some ⟨hb, 0, none⟩), .pointer (some ⟨qb, 0, none⟩)], isPl pb top S, slc 174 5 (some ⟨hb, 0, none⟩) 256 256 (Hd.tabC l), Fo.isF fb L last]))), F]) (fun s9 => 1 - oneN s9) false trivial ⟨rfl, rfl, rfl, rfl, rfl, trivial⟩ (ent_take 0 rfl (ent_close () trivial entS)) ?_
 rintro s9 _ ρ0
 dsimp only [updL]
 cases s9
 ·change TC _ _ _ _ _ _ _ (sepL [slc 216 2 y.1 1 y.2 [.int .i64 1, .int .i64 (s : Int)], (EX fun _ : Unit => pure' True (sepL [pts sb 117 [.pointer (some ⟨cb, 0, none⟩), .pointer (some ⟨fb, 0, none⟩)], pts cb 87 [.pointer (some ⟨pb, 0, none⟩), .pointer (some ⟨hb, 0, none⟩), .pointer (some ⟨qb, 0, none⟩)], isPl pb top S, slc 174 5 (some ⟨hb, 0, none⟩) 256 256 (Hd.tabC l), Fo.isF fb L last])), F])
  refine TC.open 1 rfl (fun x0 hx0 => ?_)
  obtain ⟨⟩ := x0
  clear hx0
  refine zz [104] ?_
  dsimp only [oneN]
  have hpos : 0 < [Value.int .i64 1, Value.int .i64 (s : Int)].length := Nat.succ_pos _
  refine zz [0,1,38,2,0] ?_
  refine TC.condD rfl (fun hc1 => ?_) (fun hc1 => absurd ((by decide)) hc1)
  refine zz [7,0,17,0,1] ?_
  first | refine q rfl rfl (ixS 216 2 rfl rfl rfl (by omega) asm0) ?_ | refine q rfl rfl (ixJ 216 2 rfl rfl rfl (by omega) (by omega) asm0) ?_ | refine q rfl rfl (ix 216 2 rfl rfl rfl (by omega) (by omega) rfl) ?_
  refine zz [113,5] ?_
  refine al (l := [.int _ _, .int _ _]) rfl rfl ?_
  intro b1
  refine zz [21,67,2] ?_
  refine TC.draw _ [] [(0, false), (1, false), (2, false), (3, false), (4, false), (5, false), (6, false), (7, false), (8, false), (9, false), (10, true), (11, true), (12, true), (13, false), (14, false)] (by kernel_rfl) (by kernel_rfl) (show ent (sepL _) (sepL [pts sb 117 [.pointer (some ⟨cb, 0, none⟩), .pointer (some ⟨fb, 0, none⟩)], pts b1 216 [.int .i64 1, .int .i64 (s : Int)]]) from entS) ?_
  refine zz [33,28,28,31,60,18,25,18,60,18,16] ?_
  refine cl (Fo.ffind_ok fb L last 1 (s : Int)) rfl PkL.p trivial ?_
  intro _ _
  refine zz [100,8] ?_
  rw [hfind]
  refine zz [16,72] ?_
  intro b2
  refine zz [8,16] ?_
  refine cl (spweakall_k sb fb cb pb hb qb top t S hP hT s (by omega) l ho hg1 s (by omega) (hen s hs) hz hnd lim u r0 hQ hr0 h48 hone L last id hll hown (some ⟨b2, 0, none⟩) 1) rfl PkL.p ⟨GVI.gv, _, RdSI.rd (ad := some ⟨b2, 0, none⟩)⟩ ?_
  intro _ _
  refine zz [126,8,161,41,163,1,36,3,2] ?_
  exact ⟨rfl, true, trivial, (by decide), ⟨rfl, rfl, rfl, rfl, rfl, trivial⟩, (ent_take 5 rfl (ent_close () trivial entS))⟩
 ·change TC _ _ _ _ _ _ _ (sepL [slc 216 2 y.1 1 y.2 [.int .i64 1, .int .i64 (s : Int)], (EX fun _ : Unit => pure' True (sepL [pts sb 117 [.pointer (some ⟨cb, 0, none⟩), .pointer (some ⟨fb, 0, none⟩)], pts cb 87 [.pointer (some ⟨pb, 0, none⟩), .pointer (some ⟨hb, 0, none⟩), .pointer (some ⟨qb, 0, none⟩)], slc 174 5 (some ⟨hb, 0, none⟩) 256 256 (Hd.tabC l)])), F])
  refine TC.open 1 rfl (fun x0 hx0 => ?_)
  obtain ⟨⟩ := x0
  clear hx0
  refine zz [95] ?_
  dsimp only [oneN]
  refine zz [0,1,38,2,0] ?_
  refine TC.condD rfl (fun hc2 => absurd hc2 ((by decide))) (fun hc2 => ?_)
  refine zz [50,0,1,3,4,2,11] ?_
  exact zc0
theorem spkill_k (sb fb cb pb hb qb : Nat) (top t : Nat) (S : PS) (l : List Hd.Pl) (ho : Hd.OkT l) (hg1 : Hd.getR l 1 = (ob 2 t 0, 0)) (hP : PInv top S) (hT : TI top S t) (n : Nat) (hn : 2 ≤ n ∧ n ≤ 256) (hsl : slL S.m t 256 = (List.range n).map fun s : Nat => (s : Int)) (hen : ∀ j, j < n → enA S.m t j = packN j 15) (hlv : Hd.allL l 1 = (List.range n).map fun s : Nat => (s : Int)) (hkd : ∀ j, j < n → ∃ k a f, Hd.getR l (j : Int) = (ob k a f, 0) ∧ (k = 2 ↔ j = 1)) (s : Nat) (hs : s < n) (hz : ∃ i, i < 16 ∧ i ≠ s % 16 ∧ ldW S.m (rtW S.m t (s / 16) + i * 16) ≠ 0) (hnd : Plc 48 (S.C 6) (enB S.m t s)) (lim u : Int) (r0 : List Qt.Qn) (hQ : S.Q = ⟨0, -1, lim, u⟩ :: r0) (hr0 : ∀ x ∈ r0, x.id ≠ 0) (h48 : 48 ≤ u) (hone : (S.C 6).length ≤ 1) (L : List Fo.Fn) (last id : Int) (hll : L.length ≤ 1000000) (hown : Fo.ownN L id = (1, (s : Int), true)) (hfind : Fo.findO L (1, (s : Int)) = id) (pd : Int) (hpd : 1 ≤ pd ∧ pd ≤ 16) (hs0 : s ≠ 0) (a9 : Nat) (f9 : Int) (hgo : Hd.getR l (s : Int) = (ob 4 a9 f9, 0)) : FSpec Tryz.prog 230 [.pointer (some ⟨sb, 0, none⟩), .int .u32 (s : Int)] GV [pts sb 117 [.pointer (some ⟨cb, 0, none⟩), .pointer (some ⟨fb, 0, none⟩)], pts cb 87 [.pointer (some ⟨pb, 0, none⟩), .pointer (some ⟨hb, 0, none⟩), .pointer (some ⟨qb, 0, none⟩)], isPl pb top S, slc 174 5 (some ⟨hb, 0, none⟩) 256 256 (Hd.tabC l), Fo.isF fb L last, Gr.isQ qb pd 0 []] (fun y : Option Addr × Nat => .tuple #[.slice y.1 1 y.2, .int .i64 0]) (fun _ => True) (fun _ => []) := by
 refine fI Tryz.func230 Tryz.ntmps230 ?_
 intro F hF
 refine zz [104] ?_
 haveI : GVI F := ⟨hF⟩
 have hO1 : (ob 4 a9 f9).k ≠ 1 := fun e => absurd (show (4 : Int) = 1 from e) (by decide)
 have hO2 : (ob 4 a9 f9).k ≠ 2 := fun e => absurd (show (4 : Int) = 2 from e) (by decide)
 refine zz [0,1,35,4,2,0,0,1,6,34,2,10,7,0,1,6,13,14,12,3,5] ?_
 refine cl (coof_ok cb pb hb qb l ho (s : Int) (by omega) (ob 4 a9 f9) hgo 0 (.inl rfl)) rfl PkL.p trivial ?_
 intro _ _
 refine zz [49,26,75,15,5] ?_
 refine al (l := [.int _ _, .int _ _, .int _ _]) rfl rfl ?_
 intro b3
 refine zz [21,48,4,2,0,17,0,1,3,23,9,2,10,0,1,3,30,9,2] ?_
 refine TC.condD rfl (fun hc3 => absurd hc3 ((by omega))) (fun hc3 => ?_)
 refine zz [42,0,1,6,13,14,12,3,5] ?_
 refine cl (counder_no cb pb hb qb l ho (s : Int) (by omega) (ob 4 a9 f9) hgo hO1) rfl PkL.p trivial ?_
 intro y _
 refine zz [45,3,5,72] ?_
 intro b4
 refine zz [5,175] ?_
 intro ad1 cap1
 refine zz [35,2,0,0,1,29,116,3,2,17] ?_
 refine TC.loop (ι := Bool) (fun s9 => True) (fun s9 => [(0, .pointer (some ⟨sb, 0, none⟩)), (8, .slice ad1 1 cap1), (38, .slice ad1 1 cap1), (39, .int .i64 ((1 : Nat) : Int)), (40, .int .i64 ((oneN s9 : Nat) : Int))]) (fun s9 => sepL [slc 56 1 ad1 1 cap1 [.int .u32 (s : Int)], (EX fun _ : Unit => pure' True (sepL (if s9 then [] else [pts sb 117 [.pointer (some ⟨cb, 0, none⟩), .pointer (some ⟨fb, 0, none⟩)], pts cb 87 [.pointer (some ⟨pb, 0, none⟩), .pointer (some ⟨hb, 0, none⟩), .pointer (some ⟨qb, 0, none⟩)], isPl pb top S, slc 174 5 (some ⟨hb, 0, none⟩) 256 256 (Hd.tabC l), Fo.isF fb L last, Gr.isQ qb pd 0 []]))), F]) (fun s9 => 1 - oneN s9) false trivial ⟨rfl, rfl, rfl, rfl, rfl, trivial⟩ (ent_take 0 rfl (ent_close () trivial entS)) ?_
 rintro s9 _ ρ0
 dsimp only [updL]
 cases s9
 ·change TC _ _ _ _ _ _ _ (sepL [slc 56 1 ad1 1 cap1 [.int .u32 (s : Int)], (EX fun _ : Unit => pure' True (sepL [pts sb 117 [.pointer (some ⟨cb, 0, none⟩), .pointer (some ⟨fb, 0, none⟩)], pts cb 87 [.pointer (some ⟨pb, 0, none⟩), .pointer (some ⟨hb, 0, none⟩), .pointer (some ⟨qb, 0, none⟩)], isPl pb top S, slc 174 5 (some ⟨hb, 0, none⟩) 256 256 (Hd.tabC l), Fo.isF fb L last, Gr.isQ qb pd 0 []])), F])
  refine TC.open 1 rfl (fun x0 hx0 => ?_)
  obtain ⟨⟩ := x0
  clear hx0
  refine zz [119] ?_
  dsimp only [oneN]
  have hpos : 0 < [Value.int .u32 (s : Int)].length := Nat.succ_pos _
  refine zz [0,1,38,2,0] ?_
  refine TC.condD rfl (fun hc4 => ?_) (fun hc4 => absurd ((by decide)) hc4)
  refine zz [7,0,17,0,1,167,12,4,2,0,1,6,3,5] ?_
  refine cl (spwipe_no sb fb cb pb hb qb l ho (s : Int) (by omega) (ob 4 a9 f9) hgo hO2) rfl PkL.p trivial ?_
  intro _ _
  refine zz [53,2,0,1,6,3,5] ?_
  refine cl (sppurge_k sb fb cb pb hb qb top t S l ho hg1 hP hT n hn hsl hen hlv hkd s hs hz hnd lim u r0 hQ hr0 h48 hone L last id hll hown hfind) rfl PkL.p GVI.gv ?_
  intro _ _
  refine zz [69,2,1,6,13,14,12,3,5] ?_
  refine cl (codoom_ok cb pb hb qb pd hpd l ho (s : Int) (by omega) (ob 4 a9 f9) hgo hO1 (by omega)) rfl PkL.p trivial ?_
  intro _ _
  refine zz [43,63,1,36,3,2] ?_
  exact ⟨rfl, true, trivial, (by decide), ⟨rfl, rfl, rfl, rfl, rfl, trivial⟩, (ent_take 1 rfl (ent_close () trivial entS))⟩
 ·change TC _ _ _ _ _ _ _ (sepL [slc 56 1 ad1 1 cap1 [.int .u32 (s : Int)], (EX fun _ : Unit => pure' True (sepL [])), F])
  refine TC.open 1 rfl (fun x0 hx0 => ?_)
  obtain ⟨⟩ := x0
  clear hx0
  refine zz [39] ?_
  dsimp only [oneN]
  refine zz [0,1,38,2,0] ?_
  refine TC.condD rfl (fun hc5 => absurd hc5 ((by decide))) (fun hc5 => ?_)
  refine zz [50,0,1,29,35,4,2,11] ?_
  exact Ret.i (ad1, cap1) [_, _] ⟨rfl, rfl, trivial⟩ rfl trivial entS
theorem ipend_k (ib crb hob sb thb irb hm gm lm fb cb pb hb qb : Nat) (top t : Nat) (S : PS) (l : List Hd.Pl) (ho : Hd.OkT l) (hg1 : Hd.getR l 1 = (ob 2 t 0, 0)) (hP : PInv top S) (hT : TI top S t) (n : Nat) (hn : 2 ≤ n ∧ n ≤ 256) (hsl : slL S.m t 256 = (List.range n).map fun s : Nat => (s : Int)) (hen : ∀ j, j < n → enA S.m t j = packN j 15) (hlv : Hd.allL l 1 = (List.range n).map fun s : Nat => (s : Int)) (hkd : ∀ j, j < n → ∃ k a f, Hd.getR l (j : Int) = (ob k a f, 0) ∧ (k = 2 ↔ j = 1)) (s : Nat) (hs : s < n) (hz : ∃ i, i < 16 ∧ i ≠ s % 16 ∧ ldW S.m (rtW S.m t (s / 16) + i * 16) ≠ 0) (hnd : Plc 48 (S.C 6) (enB S.m t s)) (lim u : Int) (r0 : List Qt.Qn) (hQ : S.Q = ⟨0, -1, lim, u⟩ :: r0) (hr0 : ∀ x ∈ r0, x.id ≠ 0) (h48 : 48 ≤ u) (hone : (S.C 6).length ≤ 1) (L : List Fo.Fn) (last id : Int) (hll : L.length ≤ 1000000) (hown : Fo.ownN L id = (1, (s : Int), true)) (hfind : Fo.findO L (1, (s : Int)) = id) (pd : Int) (hpd : 1 ≤ pd ∧ pd ≤ 16) (hs0 : s ≠ 0) (a9 : Nat) (f9 : Int) (hgo : Hd.getR l (s : Int) = (ob 4 a9 f9, 0)) (T : TS) (hTP : TP T []) (hTB : TB T) (gf : Int → Option Value) (gn : Nat) (ad : Option Addr) (cap : Nat) : FSpec Tryz.prog 191 [.pointer (some ⟨ib, 0, none⟩), .slice ad 1 cap] (fun F => GV F ∧ ∃ E, RdS F E ad [.int .u32 (s : Int)]) [pts ib 128 [.pointer (some ⟨crb, 0, none⟩), .pointer (some ⟨thb, 0, none⟩), .pointer (some ⟨irb, 0, none⟩), .map (some hm), .map (some gm), .map (some lm)], pts crb 133 [.pointer (some ⟨hob, 0, none⟩)], pts hob 131 [.pointer (some ⟨sb, 0, none⟩)], pts sb 117 [.pointer (some ⟨cb, 0, none⟩), .pointer (some ⟨fb, 0, none⟩)], pts cb 87 [.pointer (some ⟨pb, 0, none⟩), .pointer (some ⟨hb, 0, none⟩), .pointer (some ⟨qb, 0, none⟩)], isPl pb top S, slc 174 5 (some ⟨hb, 0, none⟩) 256 256 (Hd.tabC l), Fo.isF fb L last, Gr.isQ qb pd 0 [], isT thb T, mapF encU gm gf gn] (fun y : Option Addr × Nat => .slice y.1 1 y.2) (fun _ => True) (fun y => [pts ib 128 [.pointer (some ⟨crb, 0, none⟩), .pointer (some ⟨thb, 0, none⟩), .pointer (some ⟨irb, 0, none⟩), .map (some hm), .map (some gm), .map (some lm)], isT thb (closeT T (s : Int)).1]) := by
 refine fI Tryz.func191 Tryz.ntmps191 ?_
 intro F ⟨hF, E9, hS9⟩
 refine zz [94] ?_
 haveI : GVI F := ⟨hF⟩
 haveI : RdSI F ad E9 [.int .u32 (s : Int)] := ⟨hS9⟩
 refine zz [0,1,35,2,0,1,35,2,0,0,1,29,116,3,2,17] ?_
 refine TC.loop (ι := Bool × Option Addr × Nat) (fun s9 => True) (fun s9 => [(0, .pointer (some ⟨ib, 0, none⟩)), (5, .slice s9.2.1 (oneN s9.1) s9.2.2), (10, .slice ad 1 cap), (11, .int .i64 ((1 : Nat) : Int)), (12, .int .i64 ((oneN s9.1 : Nat) : Int))]) (fun s9 => sepL [slc 56 1 s9.2.1 (oneN s9.1) s9.2.2 (List.replicate (oneN s9.1) (.int .u32 (s : Int))), (EX fun _ : Unit => pure' True (sepL (if s9.1 then [pts ib 128 [.pointer (some ⟨crb, 0, none⟩), .pointer (some ⟨thb, 0, none⟩), .pointer (some ⟨irb, 0, none⟩), .map (some hm), .map (some gm), .map (some lm)], isT thb (closeT T (s : Int)).1] else [pts ib 128 [.pointer (some ⟨crb, 0, none⟩), .pointer (some ⟨thb, 0, none⟩), .pointer (some ⟨irb, 0, none⟩), .map (some hm), .map (some gm), .map (some lm)], pts crb 133 [.pointer (some ⟨hob, 0, none⟩)], pts hob 131 [.pointer (some ⟨sb, 0, none⟩)], pts sb 117 [.pointer (some ⟨cb, 0, none⟩), .pointer (some ⟨fb, 0, none⟩)], pts cb 87 [.pointer (some ⟨pb, 0, none⟩), .pointer (some ⟨hb, 0, none⟩), .pointer (some ⟨qb, 0, none⟩)], isPl pb top S, slc 174 5 (some ⟨hb, 0, none⟩) 256 256 (Hd.tabC l), Fo.isF fb L last, Gr.isQ qb pd 0 [], isT thb T, mapF encU gm gf gn]))), F]) (fun s9 => 1 - oneN s9.1) (false, none, 0) trivial ⟨rfl, rfl, rfl, rfl, rfl, trivial⟩ ((slc_nil 56 1 _).trans (ent_take 0 rfl (ent_close () trivial entS))) ?_
 rintro ⟨s9, oa, oc⟩ _ ρ0
 dsimp only [updL]
 cases s9
 ·change TC _ _ _ _ _ _ _ (sepL [slc 56 1 oa 0 oc [], (EX fun _ : Unit => pure' True (sepL [pts ib 128 [.pointer (some ⟨crb, 0, none⟩), .pointer (some ⟨thb, 0, none⟩), .pointer (some ⟨irb, 0, none⟩), .map (some hm), .map (some gm), .map (some lm)], pts crb 133 [.pointer (some ⟨hob, 0, none⟩)], pts hob 131 [.pointer (some ⟨sb, 0, none⟩)], pts sb 117 [.pointer (some ⟨cb, 0, none⟩), .pointer (some ⟨fb, 0, none⟩)], pts cb 87 [.pointer (some ⟨pb, 0, none⟩), .pointer (some ⟨hb, 0, none⟩), .pointer (some ⟨qb, 0, none⟩)], isPl pb top S, slc 174 5 (some ⟨hb, 0, none⟩) 256 256 (Hd.tabC l), Fo.isF fb L last, Gr.isQ qb pd 0 [], isT thb T, mapF encU gm gf gn])), F])
  refine TC.open 1 rfl (fun x0 hx0 => ?_)
  obtain ⟨⟩ := x0
  clear hx0
  refine zz [135] ?_
  dsimp only [oneN]
  have hpos : 0 < [Value.int .u32 (s : Int)].length := Nat.succ_pos _
  refine zz [0,1,38,2,0] ?_
  refine TC.condD rfl (fun hc1 => ?_) (fun hc1 => absurd ((by decide)) hc1)
  refine zz [7,0,17,0,1,167,12,4,2,0,1,6,13,14,14,12,13,14,12,13,14,12,5] ?_
  refine cl (spobj_ok sb cb fb) rfl PkL.p trivial ?_
  intro _ _
  refine zz [120,3,5] ?_
  refine cl (coof_ok cb pb hb qb l ho (s : Int) (by omega) (ob 4 a9 f9) hgo 0 (.inl rfl)) rfl PkL.p trivial ?_
  intro _ _
  refine zz [120,26,75,15,5] ?_
  refine al (l := [.int _ _, .int _ _, .int _ _]) rfl rfl ?_
  intro b1
  refine zz [21,48,4,2,0,0,1,3,23,2,10,7,0,0,1,14,12,2,17,0,1,30,9,2,10,0,1,30,9,2,10,0,1,30,9,2,40,0,1,6,13,14,47,12,3,142,5] ?_
  refine cl (tclose_ok thb T hTP hTB (s : Int)) rfl PkL.p trivial ?_
  intro _ _
  refine zz [136,2,1,6,13,125,12,3,21] ?_
  refine deF 56 150 rfl (KL.u32 rfl) rfl rfl rfl ?_
  refine zz [63,0,1,6,5] ?_
  refine cl (ipcar_ok ib crb hob sb thb irb hm gm lm) rfl PkL.p trivial ?_
  intro _ _
  refine zz [136,5] ?_
  refine cl (crsp_ok crb hob sb) rfl PkL.p trivial ?_
  intro _ _
  refine zz [136,3,5] ?_
  refine cl (spkill_k sb fb cb pb hb qb top t S l ho hg1 hP hT n hn hsl hen hlv hkd s hs hz hnd lim u r0 hQ hr0 h48 hone L last id hll hown hfind pd hpd hs0 a9 f9 hgo) rfl PkL.p GVI.gv ?_
  intro _ _
  refine zz [53,2,1,29,3,5,72] ?_
  intro b2
  refine zz [5,175] ?_
  intro ad1 cap1
  refine zz [35,63,1,36,3,2] ?_
  exact ⟨rfl, (true, ad1, cap1), trivial, (by show 1 - 1 < 1 - 0; decide), ⟨rfl, rfl, rfl, rfl, rfl, trivial⟩, (ent_take 0 rfl (ent_close () trivial entS))⟩
 ·change TC _ _ _ _ _ _ _ (sepL [slc 56 1 oa 1 oc [.int .u32 (s : Int)], (EX fun _ : Unit => pure' True (sepL [pts ib 128 [.pointer (some ⟨crb, 0, none⟩), .pointer (some ⟨thb, 0, none⟩), .pointer (some ⟨irb, 0, none⟩), .map (some hm), .map (some gm), .map (some lm)], isT thb (closeT T (s : Int)).1])), F])
  refine TC.open 1 rfl (fun x0 hx0 => ?_)
  obtain ⟨⟩ := x0
  clear hx0
  refine zz [77] ?_
  dsimp only [oneN]
  refine zz [0,1,38,2,0] ?_
  refine TC.condD rfl (fun hc2 => absurd hc2 ((by decide))) (fun hc2 => ?_)
  refine zz [50,0,1,29,35,2,11] ?_
  exact Ret.i (oa, oc) [_] ⟨rfl, trivial⟩ rfl trivial entS
theorem ipkill_k (ib crb hob sb thb irb hm gm lm fb cb pb hb qb : Nat) (top t : Nat) (S : PS) (l : List Hd.Pl) (ho : Hd.OkT l) (hg1 : Hd.getR l 1 = (ob 2 t 0, 0)) (hP : PInv top S) (hT : TI top S t) (n : Nat) (hn : 2 ≤ n ∧ n ≤ 256) (hsl : slL S.m t 256 = (List.range n).map fun s : Nat => (s : Int)) (hen : ∀ j, j < n → enA S.m t j = packN j 15) (hlv : Hd.allL l 1 = (List.range n).map fun s : Nat => (s : Int)) (hkd : ∀ j, j < n → ∃ k a f, Hd.getR l (j : Int) = (ob k a f, 0) ∧ (k = 2 ↔ j = 1)) (s : Nat) (hs : s < n) (hz : ∃ i, i < 16 ∧ i ≠ s % 16 ∧ ldW S.m (rtW S.m t (s / 16) + i * 16) ≠ 0) (hnd : Plc 48 (S.C 6) (enB S.m t s)) (lim u : Int) (r0 : List Qt.Qn) (hQ : S.Q = ⟨0, -1, lim, u⟩ :: r0) (hr0 : ∀ x ∈ r0, x.id ≠ 0) (h48 : 48 ≤ u) (hone : (S.C 6).length ≤ 1) (L : List Fo.Fn) (last id : Int) (hll : L.length ≤ 1000000) (hown : Fo.ownN L id = (1, (s : Int), true)) (hfind : Fo.findO L (1, (s : Int)) = id) (pd : Int) (hpd : 1 ≤ pd ∧ pd ≤ 16) (hs0 : s ≠ 0) (a9 : Nat) (f9 : Int) (hgo : Hd.getR l (s : Int) = (ob 4 a9 f9, 0)) (T : TS) (hTP : TP T []) (hTB : TB T) (gf : Int → Option Value) (gn : Nat) : FSpec Tryz.prog 150 [.pointer (some ⟨ib, 0, none⟩), .int .u32 (s : Int)] GV [pts ib 128 [.pointer (some ⟨crb, 0, none⟩), .pointer (some ⟨thb, 0, none⟩), .pointer (some ⟨irb, 0, none⟩), .map (some hm), .map (some gm), .map (some lm)], pts crb 133 [.pointer (some ⟨hob, 0, none⟩)], pts hob 131 [.pointer (some ⟨sb, 0, none⟩)], pts sb 117 [.pointer (some ⟨cb, 0, none⟩), .pointer (some ⟨fb, 0, none⟩)], pts cb 87 [.pointer (some ⟨pb, 0, none⟩), .pointer (some ⟨hb, 0, none⟩), .pointer (some ⟨qb, 0, none⟩)], isPl pb top S, slc 174 5 (some ⟨hb, 0, none⟩) 256 256 (Hd.tabC l), Fo.isF fb L last, Gr.isQ qb pd 0 [], isT thb T, mapF encU gm gf gn] (fun y : Option Addr × Nat => .tuple #[.slice y.1 1 y.2, .int .i64 0]) (fun _ => True) (fun y => [pts ib 128 [.pointer (some ⟨crb, 0, none⟩), .pointer (some ⟨thb, 0, none⟩), .pointer (some ⟨irb, 0, none⟩), .map (some hm), .map (some gm), .map (some lm)], isT thb (closeT T (s : Int)).1]) := by
 refine fI Tryz.func150 Tryz.ntmps150 ?_
 intro F hF
 refine zz [94] ?_
 haveI : GVI F := ⟨hF⟩
 have hO1 : (ob 4 a9 f9).k ≠ 1 := fun e => absurd (show (4 : Int) = 1 from e) (by decide)
 refine zz [0,1,35,4,2,0,1,6,3,5] ?_
 refine cl (ipof_ok ib crb hob sb thb irb hm gm lm fb cb pb hb qb l ho (s : Int) (by omega) (ob 4 a9 f9) hgo 0 (.inl rfl)) rfl PkL.p trivial ?_
 intro _ _
 refine zz [194,4,2,0,17,0,1,3,23,9,2,10,0,1,3,30,9,2] ?_
 refine TC.condD rfl (fun hc3 => absurd hc3 ((by omega))) (fun hc3 => ?_)
 refine zz [42,0,1,6,6,13,14,14,12,13,14,12,13,14,12,5] ?_
 refine cl (spobj_ok sb cb fb) rfl PkL.p trivial ?_
 intro _ _
 refine zz [194,3,5] ?_
 refine cl (counder_no cb pb hb qb l ho (s : Int) (by omega) (ob 4 a9 f9) hgo hO1) rfl PkL.p trivial ?_
 intro y _
 refine zz [120,3,5,72] ?_
 intro b3
 refine zz [5,175] ?_
 intro ad2 cap2
 refine e rfl ?_
 refine cl (ipend_k ib crb hob sb thb irb hm gm lm fb cb pb hb qb top t S l ho hg1 hP hT n hn hsl hen hlv hkd s hs hz hnd lim u r0 hQ hr0 h48 hone L last id hll hown hfind pd hpd hs0 a9 f9 hgo T hTP hTB gf gn ad2 cap2) rfl PkL.p ⟨GVI.gv, _, RdSI.rd (ad := ad2)⟩ ?_
 intro y9 _
 refine zz [57,35,4,2,11] ?_
 exact Ret.i y9 [_, _] ⟨rfl, rfl, trivial⟩ rfl trivial entS
theorem kdo_kill (kb ib crb hob sb thb irb hm gm lm fb cb pb hb qb : Nat) (top t : Nat) (S : PS) (l : List Hd.Pl) (ho : Hd.OkT l) (hg1 : Hd.getR l 1 = (ob 2 t 0, 0)) (hP : PInv top S) (hT : TI top S t) (n : Nat) (hn : 2 ≤ n ∧ n ≤ 256) (hsl : slL S.m t 256 = (List.range n).map fun s : Nat => (s : Int)) (hen : ∀ j, j < n → enA S.m t j = packN j 15) (hlv : Hd.allL l 1 = (List.range n).map fun s : Nat => (s : Int)) (hkd : ∀ j, j < n → ∃ k a f, Hd.getR l (j : Int) = (ob k a f, 0) ∧ (k = 2 ↔ j = 1)) (s : Nat) (hs : s < n) (hz : ∃ i, i < 16 ∧ i ≠ s % 16 ∧ ldW S.m (rtW S.m t (s / 16) + i * 16) ≠ 0) (hnd : Plc 48 (S.C 6) (enB S.m t s)) (lim u : Int) (r0 : List Qt.Qn) (hQ : S.Q = ⟨0, -1, lim, u⟩ :: r0) (hr0 : ∀ x ∈ r0, x.id ≠ 0) (h48 : 48 ≤ u) (hone : (S.C 6).length ≤ 1) (L : List Fo.Fn) (last id : Int) (hll : L.length ≤ 1000000) (hown : Fo.ownN L id = (1, (s : Int), true)) (hfind : Fo.findO L (1, (s : Int)) = id) (pd : Int) (hpd : 1 ≤ pd ∧ pd ≤ 16) (hs0 : s ≠ 0) (a9 : Nat) (f9 : Int) (hgo : Hd.getR l (s : Int) = (ob 4 a9 f9, 0)) (T : TS) (hTP : TP T []) (hTB : TB T) (gf : Int → Option Value) (gn : Nat) (hf : Int → Option Value) (hfn : Nat) (ts : Nat) (wa : Option Addr) (wc : Nat) : FSpec Tryz.prog 107 [.pointer (some ⟨kb, 0, none⟩), .agg #[.int .i64 (2 : Int), .int .i64 (ts : Int), .int .i64 (0 : Int), .int .i64 (0 : Int), .int .i64 0, .bool false, .int .u64 (0 : Int), .slice wa 0 wc, .slice none 0 0, .int .u32 2, .int .u32 1, .int .u32 (s : Int), .int .i64 15]] GV [pts kb 74 [.pointer (some ⟨ib, 0, none⟩)], pts ib 128 [.pointer (some ⟨crb, 0, none⟩), .pointer (some ⟨thb, 0, none⟩), .pointer (some ⟨irb, 0, none⟩), .map (some hm), .map (some gm), .map (some lm)], pts crb 133 [.pointer (some ⟨hob, 0, none⟩)], pts hob 131 [.pointer (some ⟨sb, 0, none⟩)], pts sb 117 [.pointer (some ⟨cb, 0, none⟩), .pointer (some ⟨fb, 0, none⟩)], pts cb 87 [.pointer (some ⟨pb, 0, none⟩), .pointer (some ⟨hb, 0, none⟩), .pointer (some ⟨qb, 0, none⟩)], isPl pb top S, slc 174 5 (some ⟨hb, 0, none⟩) 256 256 (Hd.tabC l), isT thb T, mapF encU hm hf hfn, (EX fun _ : Unit => pure' True (sepL [Fo.isF fb L last, Gr.isQ qb pd 0 [], mapF encU gm gf gn]))] (fun _ : Unit => .tuple #[.int .u64 ((1 : Nat) : Int), .int .i64 0]) (fun _ => True) (fun _ => [pts kb 74 [.pointer (some ⟨ib, 0, none⟩)], pts ib 128 [.pointer (some ⟨crb, 0, none⟩), .pointer (some ⟨thb, 0, none⟩), .pointer (some ⟨irb, 0, none⟩), .map (some hm), .map (some gm), .map (some lm)], isT thb (closeT T (s : Int)).1, mapF encU hm hf hfn, (EX fun _ : Unit => pure' True (sepL []))]) := by
 refine fI Tryz.func107 Tryz.ntmps107 ?_
 intro F hF
 refine zz [94] ?_
 haveI : GVI F := ⟨hF⟩
 refine TC.open 10 rfl (fun x0 hx0 => ?_)
 obtain ⟨⟩ := x0
 clear hx0
 refine zz [277,0,1,5] ?_
 refine bx (v := .agg (List.toArray [.int .i64 (2 : Int), .int .i64 (ts : Int), .int .i64 (0 : Int), .int .i64 (0 : Int), .int .i64 0, .bool false, .int .u64 (0 : Int), .slice wa 0 wc, .slice none 0 0, .int .u32 2, .int .u32 1, .int .u32 (s : Int), .int .i64 15])) (l := [.int .i64 (2 : Int), .int .i64 (ts : Int), .int .i64 (0 : Int), .int .i64 (0 : Int), .int .i64 0, .bool false, .int .u64 (0 : Int), .slice wa 0 wc, .slice none 0 0, .int .u32 2, .int .u32 1, .int .u32 (s : Int), .int .i64 15]) rfl rfl ?_
 intro bd9
 refine zz [4,4,2,0,0,1,14,14,12,2,17,0,1,30,9,2,10,0,1,30,9,2,40,0] ?_
 refine TC.draw _ [] [(0, false), (1, false), (2, false), (3, false), (4, false), (5, false), (6, false), (7, false), (8, true), (9, false), (10, false), (11, false), (12, false), (13, false)] (by kernel_rfl) (by kernel_rfl) (show ent (sepL _) (sepL [pts bd9 237 [.int .i64 (2 : Int), .int .i64 (ts : Int), .int .i64 (0 : Int), .int .i64 (0 : Int), .int .i64 0, .bool false, .int .u64 (0 : Int), .slice wa 0 wc, .slice none 0 0, .int .u32 2, .int .u32 1, .int .u32 (s : Int), .int .i64 15], pts kb 74 [.pointer (some ⟨ib, 0, none⟩)]]) from entS) ?_
 refine zz [28,31,25,25,18,137,25,18,16] ?_
 refine cl (ipkill_k ib crb hob sb thb irb hm gm lm fb cb pb hb qb top t S l ho hg1 hP hT n hn hsl hen hlv hkd s hs hz hnd lim u r0 hQ hr0 h48 hone L last id hll hown hfind pd hpd hs0 a9 f9 hgo T hTP hTB gf gn) rfl PkL.p GVI.gv ?_
 intro y9 _
 refine zz [99,8,83] ?_
 refine dq rfl rfl rfl (pu (v := .slice _ _ _) (fun _ => rfl)) ?_
 refine zz [55,213,41,27,0,1,29,116] ?_
 refine q rfl rfl (conv .i64 .u64 rfl rfl rfl (wU (a := 1) (by decide))) ?_
 refine zz [3,4,4,2,56] ?_
 exact Ret.i () [_, _] ⟨rfl, rfl, trivial⟩ rfl trivial (ent_take 3 rfl (ent_take 0 rfl (ent_take 0 rfl (ent_take 1 rfl (ent_close () trivial entS)))))
end Go.Proofs.YtnlgmaibhlicjaaGreatDoor
