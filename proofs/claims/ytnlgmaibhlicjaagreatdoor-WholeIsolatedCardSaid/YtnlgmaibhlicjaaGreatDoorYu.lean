/- Proved here: contracts of functions of this program, under the premises that each theorem names. -/
import Derived.Test.YtnlgmaibhlicjaaGreatDoorYt
set_option maxRecDepth 4000
namespace Go.Proofs.YtnlgmaibhlicjaaGreatDoor
open Go Go.QM
theorem kspaces_ok (kb ib crb hob sb thb irb hm gm lm : Nat) : FSpec Tryz.prog 147 [.pointer (some ⟨kb, 0, none⟩)] noRd [pts kb 74 [.pointer (some ⟨ib, 0, none⟩)], pts ib 128 [.pointer (some ⟨crb, 0, none⟩), .pointer (some ⟨thb, 0, none⟩), .pointer (some ⟨irb, 0, none⟩), .map (some hm), .map (some gm), .map (some lm)], pts crb 133 [.pointer (some ⟨hob, 0, none⟩)], pts hob 131 [.pointer (some ⟨sb, 0, none⟩)]] (fun _ : Unit => .pointer (some ⟨sb, 0, none⟩)) (fun _ => True) (fun _ => [pts kb 74 [.pointer (some ⟨ib, 0, none⟩)], pts ib 128 [.pointer (some ⟨crb, 0, none⟩), .pointer (some ⟨thb, 0, none⟩), .pointer (some ⟨irb, 0, none⟩), .map (some hm), .map (some gm), .map (some lm)], pts crb 133 [.pointer (some ⟨hob, 0, none⟩)], pts hob 131 [.pointer (some ⟨sb, 0, none⟩)]]) := by
 refine fI Tryz.func147 Tryz.ntmps147 ?_
 intro F _
 refine zz [95,0,1,24,2,0,1,6,13,14,14,12,5] ?_
 refine cl (ipcar_ok ib crb hob sb thb irb hm gm lm) rfl PkL.p trivial ?_
 intro _ _
 refine zz [57,5] ?_
 refine cl (crsp_ok crb hob sb) rfl PkL.p trivial ?_
 intro _ _
 refine zz [57,24,2,11] ?_
 exact zc0
theorem kipc_ok (kb ib : Nat) : FSpec Tryz.prog 27 [.pointer (some ⟨kb, 0, none⟩)] noRd [pts kb 74 [.pointer (some ⟨ib, 0, none⟩)]] (fun _ : Unit => .pointer (some ⟨ib, 0, none⟩)) (fun _ => True) (fun _ => [pts kb 74 [.pointer (some ⟨ib, 0, none⟩)]]) := by
 refine fI Tryz.func27 Tryz.ntmps27 ?_
 intro F _
 refine zz [39,0,1,24,2,0,0,1,6,34,2,10,7,0,1,6,13,14,14,12,24,2,11] ?_
 exact zc0
theorem objects_ok (kb ib crb hob sb thb irb hm gm lm cb fb : Nat) : FSpec Tryz.prog 8 [.pointer (some ⟨kb, 0, none⟩)] noRd [pts kb 74 [.pointer (some ⟨ib, 0, none⟩)], pts ib 128 [.pointer (some ⟨crb, 0, none⟩), .pointer (some ⟨thb, 0, none⟩), .pointer (some ⟨irb, 0, none⟩), .map (some hm), .map (some gm), .map (some lm)], pts crb 133 [.pointer (some ⟨hob, 0, none⟩)], pts hob 131 [.pointer (some ⟨sb, 0, none⟩)], pts sb 117 [.pointer (some ⟨cb, 0, none⟩), .pointer (some ⟨fb, 0, none⟩)]] (fun _ : Unit => .pointer (some ⟨cb, 0, none⟩)) (fun _ => True) (fun _ => [pts kb 74 [.pointer (some ⟨ib, 0, none⟩)], pts ib 128 [.pointer (some ⟨crb, 0, none⟩), .pointer (some ⟨thb, 0, none⟩), .pointer (some ⟨irb, 0, none⟩), .map (some hm), .map (some gm), .map (some lm)], pts crb 133 [.pointer (some ⟨hob, 0, none⟩)], pts hob 131 [.pointer (some ⟨sb, 0, none⟩)], pts sb 117 [.pointer (some ⟨cb, 0, none⟩), .pointer (some ⟨fb, 0, none⟩)]]) := by
 refine fI Tryz.func8 Tryz.ntmps8 ?_
 intro F _
 refine zz [82,0,1,24,2,0,1,6,5] ?_
 refine cl (kipc_ok kb ib) rfl PkL.p trivial ?_
 intro _ _
 refine zz [69,5] ?_
 refine cl (ipcar_ok ib crb hob sb thb irb hm gm lm) rfl PkL.p trivial ?_
 intro _ _
 refine zz [69,5] ?_
 refine cl (crsp_ok crb hob sb) rfl PkL.p trivial ?_
 intro _ _
 refine zz [69,5] ?_
 refine cl (spobj_ok sb cb fb) rfl PkL.p trivial ?_
 intro _ _
 refine zz [69,24,2,11] ?_
 exact zc0
theorem kasked_ok (kb ib crb hob sb thb irb hm gm lm fb cb pb hb qb top t : Nat) (S : PS) (l : List Hd.Pl) (ho : Hd.OkT l) (hg1 : Hd.getR l 1 = (ob 2 t 0, 0)) (hP : PInv top S) (hT : TI top S t) (s : Nat) (hs : s < 256) (ch : Nat) (hch : ch < 4294967295) (hA : enA S.m t s = packN ch 15) (o : Hd.Ob) (hg : Hd.getR l (ch : Int) = (o, 0)) (kind : Int) (hk : kind = 0 ∨ o.k = kind) (rgt rgv : Nat) (hrgt : 0 < rgt ∧ rgt < 16) (hrgv : 15 &&& rgt = rgv) (hrgv0 : rgv ≠ 0) : FSpec Tryz.prog 106 [.pointer (some ⟨kb, 0, none⟩), .int .u32 1, .int .i64 (s : Int), .int .i64 kind, .int .i64 (rgt : Int)] GV [pts kb 74 [.pointer (some ⟨ib, 0, none⟩)], pts ib 128 [.pointer (some ⟨crb, 0, none⟩), .pointer (some ⟨thb, 0, none⟩), .pointer (some ⟨irb, 0, none⟩), .map (some hm), .map (some gm), .map (some lm)], pts crb 133 [.pointer (some ⟨hob, 0, none⟩)], pts hob 131 [.pointer (some ⟨sb, 0, none⟩)], pts sb 117 [.pointer (some ⟨cb, 0, none⟩), .pointer (some ⟨fb, 0, none⟩)], pts cb 87 [.pointer (some ⟨pb, 0, none⟩), .pointer (some ⟨hb, 0, none⟩), .pointer (some ⟨qb, 0, none⟩)], isPl pb top S, slc 174 5 (some ⟨hb, 0, none⟩) 256 256 (Hd.tabC l)] (fun _ : Unit => .tuple #[.agg #[.int .u32 (ch : Int), .int .i64 15], .int .i64 0]) (fun _ => True) (fun _ => [pts kb 74 [.pointer (some ⟨ib, 0, none⟩)], pts ib 128 [.pointer (some ⟨crb, 0, none⟩), .pointer (some ⟨thb, 0, none⟩), .pointer (some ⟨irb, 0, none⟩), .map (some hm), .map (some gm), .map (some lm)], pts crb 133 [.pointer (some ⟨hob, 0, none⟩)], pts hob 131 [.pointer (some ⟨sb, 0, none⟩)], pts sb 117 [.pointer (some ⟨cb, 0, none⟩), .pointer (some ⟨fb, 0, none⟩)], pts cb 87 [.pointer (some ⟨pb, 0, none⟩), .pointer (some ⟨hb, 0, none⟩), .pointer (some ⟨qb, 0, none⟩)], isPl pb top S, slc 174 5 (some ⟨hb, 0, none⟩) 256 256 (Hd.tabC l)]) := by
 refine fI Tryz.func106 Tryz.ntmps106 ?_
 intro F hF
 refine zz [132] ?_
 haveI : GVI F := ⟨hF⟩
 refine zz [0,1,5] ?_
 refine al (l := [.int _ _, .int _ _]) rfl rfl ?_
 intro b1
 refine zz [4,2,0,1,6,5] ?_
 refine cl (kspaces_ok kb ib crb hob sb thb irb hm gm lm) rfl PkL.p trivial ?_
 intro _ _
 refine zz [86,3,3,5] ?_
 refine cl (splook_ok sb fb cb pb hb qb top t S l ho hg1 hP hT s hs ch 15 hch (by decide) hA) rfl PkL.p GVI.gv ?_
 intro _ _
 refine zz [86,26,101,15,5] ?_
 refine al (l := [.int _ _, .int _ _]) rfl rfl ?_
 intro b2
 refine zz [21,67,4,2,0,17,0,1,3,30,9,2,10,0,1,3,23,9,2,10,42,0,0] ?_
 trace_state
 refine TC.drawF _ [] 13 rfl (by kernel_rfl) (by kernel_rfl) (ent_take 0 rfl (ent_nil _)) ?_
 refine zz [177,274,275] ?_
 refine fq (i := 5) rfl rfl rfl (by kernel_rfl) (mv (v := .int _ _) rfl) ?_
 refine ff (i := 1) (j := 10) rfl rfl rfl rfl (by kernel_rfl) ?_ ?_
 ·refine cl (kspaces_ok kb ib crb hob sb thb irb hm gm lm) rfl PkL.p trivial ?_
  intro _ _
  refine zz [231,8] ?_
  refine ff (i := 2) (j := 10) rfl rfl rfl rfl (by kernel_rfl) ?_ ?_
  ·refine cl (spobj_ok sb cb fb) rfl PkL.p trivial ?_
   intro _ _
   refine zz [231,8] ?_
   refine ff (i := 6) (j := 10) rfl rfl rfl rfl (by kernel_rfl) ?_ ?_
   ·refine cl (coof_ok cb pb hb qb l ho (ch : Int) (by omega) o hg kind hk) rfl PkL.p trivial ?_
    intro _ _
    refine zz [231,8,265,83,133,55,16] ?_
    refine al (l := [.int _ _, .int _ _, .int _ _]) rfl rfl ?_
    intro b3
    refine zz [8,61,48,8,41,27,0,1,3,23,2,10,7,0,0,1,3,23,20] ?_
    refine TL.known 49 rfl (c := true) (decide_eq_true (by omega)) ?_
    refine zz [97,52,32] ?_
    refine qg rfl rfl rfl (andI (a := 15) (b := rgt) (c := rgv) rfl rfl (by decide) (by omega) hrgv) ?_
    refine zz [74,19,2] ?_
    refine TC.condD rfl (fun hc1 => absurd hc1 ((by omega))) (fun hc1 => ?_)
    refine zz [7,0,1,113,21,67,4,2,11] ?_
    exact zc4
   ·refine al (l := [.int _ _, .int _ _, .int _ _]) rfl rfl ?_
    intro b4
    refine zz [8,267,16] ?_
    refine cl (coof_ok cb pb hb qb l ho (ch : Int) (by omega) o hg kind hk) rfl PkL.p trivial ?_
    intro _ _
    refine zz [121,8,83,133,55,61,48,8,41,27,0,1,3,23,2,10,7,0,0,1,3,23,20] ?_
    refine TL.known 49 rfl (c := true) (decide_eq_true (by omega)) ?_
    refine zz [97,52,32] ?_
    refine qg rfl rfl rfl (andI (a := 15) (b := rgt) (c := rgv) rfl rfl (by decide) (by omega) hrgv) ?_
    refine zz [74,19,2] ?_
    refine TC.condD rfl (fun hc2 => absurd hc2 ((by omega))) (fun hc2 => ?_)
    refine zz [7,0,1,113,21,67,4,2,11] ?_
    exact zc4
  ·refine al (l := [.int _ _, .int _ _, .int _ _]) rfl rfl ?_
   intro b5
   refine ⟨entS, ?_⟩
   refine TF.of [(2, true), (6, true), (7, false), (8, false), (9, false), (11, true), (12, false)] (by kernel_rfl) rfl ?_
   refine de rfl rfl ?_
   refine cl (spobj_ok sb cb fb) rfl PkL.p trivial ?_
   intro _ _
   refine zz [121,8,16] ?_
   refine cl (coof_ok cb pb hb qb l ho (ch : Int) (by omega) o hg kind hk) rfl PkL.p trivial ?_
   intro _ _
   refine zz [121,8,83,133,55,61,48,8,41,27,0,1,3,23,2,10,7,0,0,1,3,23,20] ?_
   refine TL.known 49 rfl (c := true) (decide_eq_true (by omega)) ?_
   refine zz [97,52,32] ?_
   refine qg rfl rfl rfl (andI (a := 15) (b := rgt) (c := rgv) rfl rfl (by decide) (by omega) hrgv) ?_
   refine zz [74,19,2] ?_
   refine TC.condD rfl (fun hc3 => absurd hc3 ((by omega))) (fun hc3 => ?_)
   refine zz [7,0,1,113,21,67,4,2,11] ?_
   exact zc4
 ·refine al (l := [.int _ _, .int _ _, .int _ _]) rfl rfl ?_
  intro b6
  refine ⟨entS, ?_⟩
  refine TF.of [(1, true), (2, true), (6, true), (7, false), (8, false), (9, false), (11, true), (12, false)] (by kernel_rfl) rfl ?_
  refine de rfl rfl ?_
  refine cl (kspaces_ok kb ib crb hob sb thb irb hm gm lm) rfl PkL.p trivial ?_
  intro _ _
  refine zz [121,8,16] ?_
  refine cl (spobj_ok sb cb fb) rfl PkL.p trivial ?_
  intro _ _
  refine zz [121,8,16] ?_
  refine cl (coof_ok cb pb hb qb l ho (ch : Int) (by omega) o hg kind hk) rfl PkL.p trivial ?_
  intro _ _
  refine zz [121,8,83,133,55,61,48,8,41,27,0,1,3,23,2,10,7,0,0,1,3,23,20] ?_
  refine TL.known 49 rfl (c := true) (decide_eq_true (by omega)) ?_
  refine zz [97,52,32] ?_
  refine qg rfl rfl rfl (andI (a := 15) (b := rgt) (c := rgv) rfl rfl (by decide) (by omega) hrgv) ?_
  refine zz [74,19,2] ?_
  refine TC.condD rfl (fun hc4 => absurd hc4 ((by omega))) (fun hc4 => ?_)
  refine zz [7,0,1,113,21,67,4,2,11] ?_
  exact zc4
end Go.Proofs.YtnlgmaibhlicjaaGreatDoor
namespace Go.Proofs.YtnlgmaibhlicjaaGreatDoor
open Go Go.QM
theorem kcall_of (kb ib crb hob sb thb irb hm gm lm fb cb pb hb qb top t : Nat) (S : PS) (l : List Hd.Pl) (ho : Hd.OkT l) (hg1 : Hd.getR l 1 = (ob 2 t 0, 0)) (hP : PInv top S) (hT : TI top S t) (op s a b x : Nat) (hop : 1 ≤ op ∧ op ≤ 18) (hs8 : s ≤ 255) (ha8 : a ≤ 255) (hb8 : b ≤ 255) (hx8 : x < 2 ^ 64) (T T' : TS) (hTP : TP T []) (hTB : TB T) (hrun : Rd.runS T.S = 2) (hTP2 : TP T' []) (hTB2 : TB T') (hrun2 : Rd.runS T'.S = 2) (htold : T'.told.length = 0) (hf : Int → Option Value) (hn at9 : Nat) (hhf : hf 2 = some (.agg #[.int .u32 1, .int .i64 (at9 : Int)])) (ch : Nat) (hch : ch < 4294967295) (hA : enA S.m t s = packN ch 15) (o : Hd.Ob) (hg : Hd.getR l (ch : Int) = (o, 0)) (kind : Int) (hk : kind = 0 ∨ o.k = kind) (rgt rgv : Nat) (hrgt : 0 < rgt ∧ rgt < 16) (hrgv : 15 &&& rgt = rgv) (hrgv0 : rgv ≠ 0) (hAs : FSpec Tryz.prog 105 [.int .i64 (op : Int)] GV [] (fun _ : Unit => .tuple #[.int .i64 kind, .int .i64 (rgt : Int), .bool true]) (fun _ => True) (fun _ => [])) {α : Type} (X : HP) (Y : α → HP) (rh : α → Nat) (re : α → Int) (φ : α → Prop) (hD : ∀ (wa : Option Addr) (wc : Nat), FSpec Tryz.prog 107 [.pointer (some ⟨kb, 0, none⟩), .agg #[.int .i64 (op : Int), .int .i64 (s : Int), .int .i64 (a : Int), .int .i64 (b : Int), .int .i64 0, .bool false, .int .u64 (x : Int), .slice wa 0 wc, .slice none 0 0, .int .u32 2, .int .u32 1, .int .u32 (ch : Int), .int .i64 15]] GV [pts kb 74 [.pointer (some ⟨ib, 0, none⟩)], pts ib 128 [.pointer (some ⟨crb, 0, none⟩), .pointer (some ⟨thb, 0, none⟩), .pointer (some ⟨irb, 0, none⟩), .map (some hm), .map (some gm), .map (some lm)], pts crb 133 [.pointer (some ⟨hob, 0, none⟩)], pts hob 131 [.pointer (some ⟨sb, 0, none⟩)], pts sb 117 [.pointer (some ⟨cb, 0, none⟩), .pointer (some ⟨fb, 0, none⟩)], pts cb 87 [.pointer (some ⟨pb, 0, none⟩), .pointer (some ⟨hb, 0, none⟩), .pointer (some ⟨qb, 0, none⟩)], isPl pb top S, slc 174 5 (some ⟨hb, 0, none⟩) 256 256 (Hd.tabC l), isT thb T, mapF encU hm hf hn, X] (fun y : α => .tuple #[.int .u64 (rh y : Int), .int .i64 (re y)]) φ (fun y => [pts kb 74 [.pointer (some ⟨ib, 0, none⟩)], pts ib 128 [.pointer (some ⟨crb, 0, none⟩), .pointer (some ⟨thb, 0, none⟩), .pointer (some ⟨irb, 0, none⟩), .map (some hm), .map (some gm), .map (some lm)], isT thb T', mapF encU hm hf hn, Y y])) (ad : Option Addr) (cap : Nat) : FSpec Tryz.prog 60 [.pointer (some ⟨kb, 0, none⟩), .slice ad 2 cap] GV [pts kb 74 [.pointer (some ⟨ib, 0, none⟩)], pts ib 128 [.pointer (some ⟨crb, 0, none⟩), .pointer (some ⟨thb, 0, none⟩), .pointer (some ⟨irb, 0, none⟩), .map (some hm), .map (some gm), .map (some lm)], pts crb 133 [.pointer (some ⟨hob, 0, none⟩)], pts hob 131 [.pointer (some ⟨sb, 0, none⟩)], pts sb 117 [.pointer (some ⟨cb, 0, none⟩), .pointer (some ⟨fb, 0, none⟩)], pts cb 87 [.pointer (some ⟨pb, 0, none⟩), .pointer (some ⟨hb, 0, none⟩), .pointer (some ⟨qb, 0, none⟩)], isPl pb top S, slc 174 5 (some ⟨hb, 0, none⟩) 256 256 (Hd.tabC l), isT thb T, mapF encU hm hf hn, X, slc 31 1 ad 2 cap (wordsC op s a b x)] (fun y : α => .tuple #[.int .u64 (rh y : Int), .int .i64 (re y)]) φ (fun y => [pts kb 74 [.pointer (some ⟨ib, 0, none⟩)], pts ib 128 [.pointer (some ⟨crb, 0, none⟩), .pointer (some ⟨thb, 0, none⟩), .pointer (some ⟨irb, 0, none⟩), .map (some hm), .map (some gm), .map (some lm)], isT thb T', mapF encU hm hf hn, Y y, slc 31 1 ad 2 cap (wordsC op s a b x)]) := by
 refine fI Tryz.func60 Tryz.ntmps60 ?_
 intro F hF
 refine zz [135] ?_
 haveI : GVI F := ⟨hF⟩
 refine zz [0,1,4,4,2,0,1,6,13,14,14,12,5] ?_
 refine cl (iprun_ok ib crb hob sb thb irb hm gm lm T hTP hTB) rfl PkL.p trivial ?_
 intro _ _
 refine zz [120] ?_
 rw [hrun]
 refine zz [4,2,0,0,1,3,30,2,10,7,0,1,29,5] ?_
 refine cl (cdec_ok ad cap op s a b x hop hs8 ha8 hb8 hx8) rfl PkL.p trivial ?_
 intro q9 _
 refine zz [120,26] ?_
 refine q rfl rfl (pu (v := .agg _) (fun _ => rfl)) ?_
 refine zz [15,5] ?_
 refine al (l := [.int _ _, .int _ _, .int _ _, .int _ _, .int _ _, .bool _, .int _ _, .slice _ _ _, .slice _ _ _]) rfl rfl ?_
 intro b1
 refine zz [21,271,4,2,0,0,1,3,23,2,10,7,0,1,3,251,4,2,0,1,6,13,14,14,12,3,5] ?_
 refine cl (iphome_ok ib crb hob sb thb irb hm gm lm hf hn 2 at9 hhf) rfl PkL.p trivial ?_
 intro _ _
 refine zz [136,26,101,80,5] ?_
 refine al (l := [.int _ _, .int _ _]) rfl rfl ?_
 intro b2
 refine zz [21,67,9,2,0,1,180,3,14,12] ?_
 refine q rfl rfl (bld (cs := [.int .i64 (op : Int), .int .i64 (s : Int), .int .i64 (a : Int), .int .i64 (b : Int), .int .i64 0, .bool false, .int .u64 (x : Int), .slice q9.1 0 q9.2, .slice none 0 0, .int .u32 2, .int .u32 1, .int .u32 0, .int .i64 0]) (by kernel_rfl)) ?_
 refine e rfl ?_
 refine al (l := [.int .i64 0, .int .i64 0, .int .i64 0, .int .i64 0, .int .i64 0, .bool false, .int .u64 0, .slice none 0 0, .slice none 0 0, .int .u32 0, .int .u32 0, .int .u32 0, .int .i64 0]) rfl rfl ?_
 intro bd9
 refine e0 ?_
 refine st (v := .agg (List.toArray [.int .i64 (op : Int), .int .i64 (s : Int), .int .i64 (a : Int), .int .i64 (b : Int), .int .i64 0, .bool false, .int .u64 (x : Int), .slice q9.1 0 q9.2, .slice none 0 0, .int .u32 2, .int .u32 1, .int .u32 0, .int .i64 0])) (vs := [.int .i64 (op : Int), .int .i64 (s : Int), .int .i64 (a : Int), .int .i64 (b : Int), .int .i64 0, .bool false, .int .u64 (x : Int), .slice q9.1 0 q9.2, .slice none 0 0, .int .u32 2, .int .u32 1, .int .u32 0, .int .i64 0]) 13 rfl rfl rfl rfl rfl rfl (Nat.le_of_ble_eq_true rfl) rfl ?_
 refine zz [2,0,0,1,14,12,5] ?_
 refine cl hAs rfl (picked_nil _) GVI.gv ?_
 intro _ _
 refine zz [157,26,15,15,80,4,4,9,2,0,1,20,2,40,0,1,6] ?_
 first | refine q rfl rfl (fa 10 rfl rfl) ?_ | refine q rfl rfl (faS 10 rfl rfl asm0) ?_
 refine zz [12,47,12,3,3,5] ?_
 refine cl (kasked_ok kb ib crb hob sb thb irb hm gm lm fb cb pb hb qb top t S l ho hg1 hP hT s (by omega) ch hch hA o hg kind hk rgt rgv hrgt hrgv hrgv0) rfl PkL.p GVI.gv ?_
 intro _ _
 refine zz [157,26,101,15] ?_
 first | refine q rfl rfl (fa 11 rfl rfl) ?_ | refine q rfl rfl (faS 11 rfl rfl asm0) ?_
 refine zz [21,67,4,2,0,1,3,23,2,10,7,0,1,6] ?_
 refine q rfl rfl (ldN 13 (vs := [.int .i64 (op : Int), .int .i64 (s : Int), .int .i64 (a : Int), .int .i64 (b : Int), .int .i64 0, .bool false, .int .u64 (x : Int), .slice q9.1 0 q9.2, .slice none 0 0, .int .u32 2, .int .u32 1, .int .u32 (ch : Int), .int .i64 15]) rfl rfl (by kernel_rfl) rfl) ?_
 refine e rfl ?_
 refine cl (hD q9.1 q9.2) rfl PkL.p GVI.gv ?_
 intro y hy
 refine zz [86,15,15,4,4,2,11] ?_
 exact Ret.i y [_, _] ⟨rfl, rfl, trivial⟩ rfl hy entS
theorem kentry_of (kb ib crb hob sb thb irb hm gm lm fb cb pb hb qb top t : Nat) (S : PS) (l : List Hd.Pl) (ho : Hd.OkT l) (hg1 : Hd.getR l 1 = (ob 2 t 0, 0)) (hP : PInv top S) (hT : TI top S t) (op s a b x : Nat) (hop : 1 ≤ op ∧ op ≤ 18) (hs8 : s ≤ 255) (ha8 : a ≤ 255) (hb8 : b ≤ 255) (hx8 : x < 2 ^ 64) (T T' : TS) (hTP : TP T []) (hTB : TB T) (hrun : Rd.runS T.S = 2) (hTP2 : TP T' []) (hTB2 : TB T') (hrun2 : Rd.runS T'.S = 2) (htold : T'.told.length = 0) (hf : Int → Option Value) (hn at9 : Nat) (hhf : hf 2 = some (.agg #[.int .u32 1, .int .i64 (at9 : Int)])) (ch : Nat) (hch : ch < 4294967295) (hA : enA S.m t s = packN ch 15) (o : Hd.Ob) (hg : Hd.getR l (ch : Int) = (o, 0)) (kind : Int) (hk : kind = 0 ∨ o.k = kind) (rgt rgv : Nat) (hrgt : 0 < rgt ∧ rgt < 16) (hrgv : 15 &&& rgt = rgv) (hrgv0 : rgv ≠ 0) (hAs : FSpec Tryz.prog 105 [.int .i64 (op : Int)] GV [] (fun _ : Unit => .tuple #[.int .i64 kind, .int .i64 (rgt : Int), .bool true]) (fun _ => True) (fun _ => [])) {α : Type} (X : HP) (Y : α → HP) (rh : α → Nat) (re : α → Int) (φ : α → Prop) (hD : ∀ (wa : Option Addr) (wc : Nat), FSpec Tryz.prog 107 [.pointer (some ⟨kb, 0, none⟩), .agg #[.int .i64 (op : Int), .int .i64 (s : Int), .int .i64 (a : Int), .int .i64 (b : Int), .int .i64 0, .bool false, .int .u64 (x : Int), .slice wa 0 wc, .slice none 0 0, .int .u32 2, .int .u32 1, .int .u32 (ch : Int), .int .i64 15]] GV [pts kb 74 [.pointer (some ⟨ib, 0, none⟩)], pts ib 128 [.pointer (some ⟨crb, 0, none⟩), .pointer (some ⟨thb, 0, none⟩), .pointer (some ⟨irb, 0, none⟩), .map (some hm), .map (some gm), .map (some lm)], pts crb 133 [.pointer (some ⟨hob, 0, none⟩)], pts hob 131 [.pointer (some ⟨sb, 0, none⟩)], pts sb 117 [.pointer (some ⟨cb, 0, none⟩), .pointer (some ⟨fb, 0, none⟩)], pts cb 87 [.pointer (some ⟨pb, 0, none⟩), .pointer (some ⟨hb, 0, none⟩), .pointer (some ⟨qb, 0, none⟩)], isPl pb top S, slc 174 5 (some ⟨hb, 0, none⟩) 256 256 (Hd.tabC l), isT thb T, mapF encU hm hf hn, X] (fun y : α => .tuple #[.int .u64 (rh y : Int), .int .i64 (re y)]) φ (fun y => [pts kb 74 [.pointer (some ⟨ib, 0, none⟩)], pts ib 128 [.pointer (some ⟨crb, 0, none⟩), .pointer (some ⟨thb, 0, none⟩), .pointer (some ⟨irb, 0, none⟩), .map (some hm), .map (some gm), .map (some lm)], isT thb T', mapF encU hm hf hn, Y y])) (ad : Option Addr) (cap : Nat) : FSpec Tryz.prog 23 [.pointer (some ⟨kb, 0, none⟩), .agg #[.int .i64 0, .int .i64 0, .slice ad 2 cap]] GV [pts kb 74 [.pointer (some ⟨ib, 0, none⟩)], pts ib 128 [.pointer (some ⟨crb, 0, none⟩), .pointer (some ⟨thb, 0, none⟩), .pointer (some ⟨irb, 0, none⟩), .map (some hm), .map (some gm), .map (some lm)], pts crb 133 [.pointer (some ⟨hob, 0, none⟩)], pts hob 131 [.pointer (some ⟨sb, 0, none⟩)], pts sb 117 [.pointer (some ⟨cb, 0, none⟩), .pointer (some ⟨fb, 0, none⟩)], pts cb 87 [.pointer (some ⟨pb, 0, none⟩), .pointer (some ⟨hb, 0, none⟩), .pointer (some ⟨qb, 0, none⟩)], isPl pb top S, slc 174 5 (some ⟨hb, 0, none⟩) 256 256 (Hd.tabC l), isT thb T, mapF encU hm hf hn, X, slc 31 1 ad 2 cap (wordsC op s a b x)] (fun y : α => .tuple #[.int .u64 (rh y : Int), .int .i64 (re y)]) φ (fun y => [pts kb 74 [.pointer (some ⟨ib, 0, none⟩)], pts ib 128 [.pointer (some ⟨crb, 0, none⟩), .pointer (some ⟨thb, 0, none⟩), .pointer (some ⟨irb, 0, none⟩), .map (some hm), .map (some gm), .map (some lm)], isT thb T', mapF encU hm hf hn, Y y, slc 31 1 ad 2 cap (wordsC op s a b x)]) := by
 refine fI Tryz.func23 Tryz.ntmps23 ?_
 intro F hF
 refine zz [135] ?_
 haveI : GVI F := ⟨hF⟩
 refine zz [0,1,5] ?_
 refine bx (v := .agg #[_, _, _]) (l := [.int _ _, .int _ _, .slice _ _ _]) rfl rfl ?_
 intro b3
 refine zz [4,4,2,0,0,1,14,12,2,17,0,1,30,9,2,40,0,1,6,62,12,5] ?_
 refine cl (kcall_of kb ib crb hob sb thb irb hm gm lm fb cb pb hb qb top t S l ho hg1 hP hT op s a b x hop hs8 ha8 hb8 hx8 T T' hTP hTB hrun hTP2 hTB2 hrun2 htold hf hn at9 hhf ch hch hA o hg kind hk rgt rgv hrgt hrgv hrgv0 hAs X Y rh re φ hD ad cap) rfl PkL.p GVI.gv ?_
 intro y hy
 refine zz [53,15,15,4,4,2,56] ?_
 exact Ret.i y [_, _] ⟨rfl, rfl, trivial⟩ rfl hy entS
theorem kstep_of (kb ib crb hob sb thb irb hm gm lm fb cb pb hb qb top t : Nat) (S : PS) (l : List Hd.Pl) (ho : Hd.OkT l) (hg1 : Hd.getR l 1 = (ob 2 t 0, 0)) (hP : PInv top S) (hT : TI top S t) (op s a b x : Nat) (hop : 1 ≤ op ∧ op ≤ 18) (hs8 : s ≤ 255) (ha8 : a ≤ 255) (hb8 : b ≤ 255) (hx8 : x < 2 ^ 64) (T T' : TS) (hTP : TP T []) (hTB : TB T) (hrun : Rd.runS T.S = 2) (hTP2 : TP T' []) (hTB2 : TB T') (hrun2 : Rd.runS T'.S = 2) (htold : T'.told.length = 0) (hf : Int → Option Value) (hn at9 : Nat) (hhf : hf 2 = some (.agg #[.int .u32 1, .int .i64 (at9 : Int)])) (ch : Nat) (hch : ch < 4294967295) (hA : enA S.m t s = packN ch 15) (o : Hd.Ob) (hg : Hd.getR l (ch : Int) = (o, 0)) (kind : Int) (hk : kind = 0 ∨ o.k = kind) (rgt rgv : Nat) (hrgt : 0 < rgt ∧ rgt < 16) (hrgv : 15 &&& rgt = rgv) (hrgv0 : rgv ≠ 0) (hAs : FSpec Tryz.prog 105 [.int .i64 (op : Int)] GV [] (fun _ : Unit => .tuple #[.int .i64 kind, .int .i64 (rgt : Int), .bool true]) (fun _ => True) (fun _ => [])) {α : Type} (X : HP) (Y : α → HP) (rh : α → Nat) (re : α → Int) (φ : α → Prop) (hD : ∀ (wa : Option Addr) (wc : Nat), FSpec Tryz.prog 107 [.pointer (some ⟨kb, 0, none⟩), .agg #[.int .i64 (op : Int), .int .i64 (s : Int), .int .i64 (a : Int), .int .i64 (b : Int), .int .i64 0, .bool false, .int .u64 (x : Int), .slice wa 0 wc, .slice none 0 0, .int .u32 2, .int .u32 1, .int .u32 (ch : Int), .int .i64 15]] GV [pts kb 74 [.pointer (some ⟨ib, 0, none⟩)], pts ib 128 [.pointer (some ⟨crb, 0, none⟩), .pointer (some ⟨thb, 0, none⟩), .pointer (some ⟨irb, 0, none⟩), .map (some hm), .map (some gm), .map (some lm)], pts crb 133 [.pointer (some ⟨hob, 0, none⟩)], pts hob 131 [.pointer (some ⟨sb, 0, none⟩)], pts sb 117 [.pointer (some ⟨cb, 0, none⟩), .pointer (some ⟨fb, 0, none⟩)], pts cb 87 [.pointer (some ⟨pb, 0, none⟩), .pointer (some ⟨hb, 0, none⟩), .pointer (some ⟨qb, 0, none⟩)], isPl pb top S, slc 174 5 (some ⟨hb, 0, none⟩) 256 256 (Hd.tabC l), isT thb T, mapF encU hm hf hn, X] (fun y : α => .tuple #[.int .u64 (rh y : Int), .int .i64 (re y)]) φ (fun y => [pts kb 74 [.pointer (some ⟨ib, 0, none⟩)], pts ib 128 [.pointer (some ⟨crb, 0, none⟩), .pointer (some ⟨thb, 0, none⟩), .pointer (some ⟨irb, 0, none⟩), .map (some hm), .map (some gm), .map (some lm)], isT thb T', mapF encU hm hf hn, Y y])) (hre : ∀ y, re y ≠ 0 → rh y = 0) (ad : Option Addr) (cap : Nat) : FSpec Tryz.prog 6 [.pointer (some ⟨kb, 0, none⟩), .agg #[.int .i64 0, .int .i64 0, .slice ad 2 cap]] GV [pts kb 74 [.pointer (some ⟨ib, 0, none⟩)], pts ib 128 [.pointer (some ⟨crb, 0, none⟩), .pointer (some ⟨thb, 0, none⟩), .pointer (some ⟨irb, 0, none⟩), .map (some hm), .map (some gm), .map (some lm)], pts crb 133 [.pointer (some ⟨hob, 0, none⟩)], pts hob 131 [.pointer (some ⟨sb, 0, none⟩)], pts sb 117 [.pointer (some ⟨cb, 0, none⟩), .pointer (some ⟨fb, 0, none⟩)], pts cb 87 [.pointer (some ⟨pb, 0, none⟩), .pointer (some ⟨hb, 0, none⟩), .pointer (some ⟨qb, 0, none⟩)], isPl pb top S, slc 174 5 (some ⟨hb, 0, none⟩) 256 256 (Hd.tabC l), isT thb T, mapF encU hm hf hn, X, slc 31 1 ad 2 cap (wordsC op s a b x)] (fun y : α × Option Addr × Nat => .agg #[.int .i64 (re y.1), .int .u64 (rh y.1 : Int), .int .i64 2, .slice y.2.1 0 y.2.2]) (fun y => φ y.1) (fun y => [pts kb 74 [.pointer (some ⟨ib, 0, none⟩)], pts ib 128 [.pointer (some ⟨crb, 0, none⟩), .pointer (some ⟨thb, 0, none⟩), .pointer (some ⟨irb, 0, none⟩), .map (some hm), .map (some gm), .map (some lm)], isT thb (toldT T'), mapF encU hm hf hn, Y y.1, slc 31 1 ad 2 cap (wordsC op s a b x)]) := by
 refine fI Tryz.func6 Tryz.ntmps6 ?_
 intro F hF
 refine zz [135] ?_
 haveI : GVI F := ⟨hF⟩
 refine zz [0,1,5] ?_
 refine bx (v := .agg #[_, _, _]) (l := [.int _ _, .int _ _, .slice _ _ _]) rfl rfl ?_
 intro b4
 refine e rfl ?_
 refine al (l := [.int _ _, .int _ _, .int _ _, .slice _ _ _]) rfl rfl ?_
 intro b5
 refine zz [2,0,0,1,6,34,2,10,7,0,1,6,76,5] ?_
 refine cl (kentry_of kb ib crb hob sb thb irb hm gm lm fb cb pb hb qb top t S l ho hg1 hP hT op s a b x hop hs8 ha8 hb8 hx8 T T' hTP hTB hrun hTP2 hTB2 hrun2 htold hf hn at9 hhf ch hch hA o hg kind hk rgt rgv hrgt hrgv hrgv0 hAs X Y rh re φ hD ad cap) rfl PkL.p GVI.gv ?_
 intro y hy
 refine zz [45,26,15,15,4,4,2,0,0,1,3,23,2] ?_
 first | refine TC.condD rfl (fun hne => ?_) (fun hne => ?_) | refine TC.cond rfl (fun hne => ?_) (fun hne => ?_)
 ·refine zz [1,4,2,0,276,33,33,28,31,25,25,18,28,31,25,25,18,16] ?_
  refine cl (iprun_ok ib crb hob sb thb irb hm gm lm T' hTP2 hTB2) rfl PkL.p trivial ?_
  intro _ _
  refine zz [118,8] ?_
  rw [hrun2]
  refine de rfl rfl ?_
  refine cl (iptold_ok ib crb hob sb thb irb hm gm lm T') rfl PkL.p trivial ?_
  intro w9 _
  refine zz [127,8] ?_
  rw [htold]
  refine dq rfl rfl rfl (bld (cs := [.int .i64 (re y), .int .u64 0, .int .i64 2, .slice w9.1 0 w9.2]) (by kernel_rfl)) ?_
  refine zz [70,68,27,11] ?_
  exact Ret.i (y, w9) [_] ⟨(rcN (n := 4) rfl rfl rfl rfl), trivial⟩ (by rw [show rh ((y, w9) : α × Option Addr × Nat).1 = 0 from hre y hne]; rfl) hy entS
 ·refine zz [7,0,276,33,33,28,31,25,25,18,28,31,25,25,18,16] ?_
  refine cl (iprun_ok ib crb hob sb thb irb hm gm lm T' hTP2 hTB2) rfl PkL.p trivial ?_
  intro _ _
  refine zz [118,8] ?_
  rw [hrun2]
  refine de rfl rfl ?_
  refine cl (iptold_ok ib crb hob sb thb irb hm gm lm T') rfl PkL.p trivial ?_
  intro w9 _
  refine zz [127,8] ?_
  rw [htold]
  refine dq rfl rfl rfl (bld (cs := [.int .i64 (re y), .int .u64 (rh y : Int), .int .i64 2, .slice w9.1 0 w9.2]) (by kernel_rfl)) ?_
  refine zz [70,68,27,11] ?_
  exact Ret.i (y, w9) [_] ⟨(rcN (n := 4) rfl rfl rfl rfl), trivial⟩ rfl hy entS
theorem kmk_task (kb : Nat) (ib crb hob thb irb hm gm lm : Nat) (sb fb cb pb hb qb top t : Nat) (S : PS) (l : List Hd.Pl) (ho : Hd.OkT l) (hg1 : Hd.getR l 1 = (ob 2 t 0, 0)) (hP : PInv top S) (hT : TI top S t) (s : Nat) (hs : s < 256) (lim u : Int) (r0 : List Qt.Qn) (hA : enA S.m t s = 0) (hQ : S.Q = ⟨0, -1, lim, u⟩ :: r0) (hq : QR lim u r0) (n : Nat) (hU : ∀ c ∈ cls, usd S.C c ≤ n) (hR : RmB top S.Fr (n + 1)) (L : List Fo.Fn) (last : Int) (hla : last ≤ 1000000) (hs8 : s < 128) (th : Int) (hth : 0 ≤ th ∧ th ≤ 4294967295) (f9 : Nat) (g9 : Int) (hg : Hd.getR l th = (ob 1 f9 g9, 0)) (hf9 : Plc 64 (S.C 1) f9) (w : Nat) (hw : ldW S.m f9 = w) (hw9 : w ≤ 40) (dz : Int) (r1 : List Qt.Qn) (hch : ChQ lim u r0 w (clsz 2 : Int) dz r1 0) (hr : (Hd.allL l 0).length ≠ 0) (h : Nat) (hh : h < 4294967295) (hput : ∀ o, (Hd.putR l o).2 = ((h : Int), 0)) (hget : ∀ o, Hd.getR (Hd.putR l o).1 (h : Int) = (o, 0)) (hok2 : ∀ o, Hd.OkT (Hd.putR l o).1) (ts : Nat) (wa : Option Addr) (wc : Nat) : FSpec Tryz.prog 149 [.pointer (some ⟨kb, 0, none⟩), .agg #[.int .i64 (1 : Int), .int .i64 (ts : Int), .int .i64 (s : Int), .int .i64 (2 : Int), .int .i64 0, .bool false, .int .u64 (0 : Int), .slice wa 0 wc, .slice none 0 0, .int .u32 2, .int .u32 1, .int .u32 th, .int .i64 15]] GV [pts kb 74 [.pointer (some ⟨ib, 0, none⟩)], pts ib 128 [.pointer (some ⟨crb, 0, none⟩), .pointer (some ⟨thb, 0, none⟩), .pointer (some ⟨irb, 0, none⟩), .map (some hm), .map (some gm), .map (some lm)], pts crb 133 [.pointer (some ⟨hob, 0, none⟩)], pts hob 131 [.pointer (some ⟨sb, 0, none⟩)], pts sb 117 [.pointer (some ⟨cb, 0, none⟩), .pointer (some ⟨fb, 0, none⟩)], pts cb 87 [.pointer (some ⟨pb, 0, none⟩), .pointer (some ⟨hb, 0, none⟩), .pointer (some ⟨qb, 0, none⟩)], isPl pb top S, slc 174 5 (some ⟨hb, 0, none⟩) 256 256 (Hd.tabC l), Fo.isF fb L last] (fun _ : Nat × PS => .tuple #[.int .u64 (h : Int), .int .i64 0]) (fun y => MkR top t S s (packN h 15) y.2 ∧ Plc (clsz 2) (y.2.C 2) y.1 ∧ ((2 : Nat) ≠ 2 → ∀ o, y.1 ≤ o → o + 8 ≤ y.1 + clsz 2 → ldW y.2.m o = 0) ∧ (∃ d : Int, 0 ≤ d ∧ d ≤ 304 ∧ y.2.Q = ⟨0, -1, lim, u + d + dz⟩ :: r1) ∧ y.2.nx = S.nx ∧ y.2.Fr = S.Fr) (fun y => [pts kb 74 [.pointer (some ⟨ib, 0, none⟩)], pts ib 128 [.pointer (some ⟨crb, 0, none⟩), .pointer (some ⟨thb, 0, none⟩), .pointer (some ⟨irb, 0, none⟩), .map (some hm), .map (some gm), .map (some lm)], pts crb 133 [.pointer (some ⟨hob, 0, none⟩)], pts hob 131 [.pointer (some ⟨sb, 0, none⟩)], pts sb 117 [.pointer (some ⟨cb, 0, none⟩), .pointer (some ⟨fb, 0, none⟩)], pts cb 87 [.pointer (some ⟨pb, 0, none⟩), .pointer (some ⟨hb, 0, none⟩), .pointer (some ⟨qb, 0, none⟩)], isPl pb top y.2, slc 174 5 (some ⟨hb, 0, none⟩) 256 256 (Hd.tabC (Hd.putR l (ob 2 y.1 (w : Int))).1), Fo.isF fb (Fo.addN L last 0 (1, (s : Int))).1 (Fo.addN L last 0 (1, (s : Int))).2.1]) := by
 refine fI Tryz.func149 Tryz.ntmps149 ?_
 intro F hF
 refine zz [156] ?_
 haveI : GVI F := ⟨hF⟩
 refine zz [0,1,5] ?_
 refine bx (v := .agg (List.toArray [.int .i64 (1 : Int), .int .i64 (ts : Int), .int .i64 (s : Int), .int .i64 (2 : Int), .int .i64 0, .bool false, .int .u64 (0 : Int), .slice wa 0 wc, .slice none 0 0, .int .u32 2, .int .u32 1, .int .u32 th, .int .i64 15])) (l := [.int .i64 (1 : Int), .int .i64 (ts : Int), .int .i64 (s : Int), .int .i64 (2 : Int), .int .i64 0, .bool false, .int .u64 (0 : Int), .slice wa 0 wc, .slice none 0 0, .int .u32 2, .int .u32 1, .int .u32 th, .int .i64 15]) rfl rfl ?_
 intro bd9
 refine zz [4,4,2,0,1,73,5] ?_
 refine al (l := [.int _ _, .int _ _]) rfl rfl ?_
 intro b1
 refine zz [4,21,67,2,0,0,1,14,78,12,2,17,0,1,30,9,2] ?_
 refine TC.condD rfl (fun hc1 => absurd hc1 ((by omega))) (fun hc1 => ?_)
 refine zz [0,1,30,9,2] ?_
 refine TC.condD rfl (fun hc2 => absurd hc2 ((by omega))) (fun hc2 => ?_)
 refine zz [42,0] ?_
 trace_state
 refine zz [158,28,31,25,25,18,159,18,25,58,18,137,25,18,25,90,18,33,25,18,16] ?_
 refine cl (ipmk_task ib crb hob thb irb hm gm lm sb fb cb pb hb qb top t S l ho hg1 hP hT s hs lim u r0 hA hQ hq n hU hR L last hla hs8 th hth f9 g9 hg hf9 w hw hw9 0 dz r1 hch hr h hh hput hget hok2 0) rfl PkL.p GVI.gv ?_
 intro y hy
 refine zz [121,8,83,55,55,41,41,27,0,1,3] ?_
 refine q rfl rfl (conv .u32 .u64 rfl rfl rfl (wU (a := h) (by omega))) ?_
 refine zz [3,4,4,2,11] ?_
 exact Ret.i y [_, _] ⟨rfl, rfl, trivial⟩ rfl hy entS
theorem kmk_gate (kb : Nat) (ib crb hob thb irb hm gm lm : Nat) (sb fb cb pb hb qb top t : Nat) (S : PS) (l : List Hd.Pl) (ho : Hd.OkT l) (hg1 : Hd.getR l 1 = (ob 2 t 0, 0)) (hP : PInv top S) (hT : TI top S t) (s : Nat) (hs : s < 256) (lim u : Int) (r0 : List Qt.Qn) (hA : enA S.m t s = 0) (hQ : S.Q = ⟨0, -1, lim, u⟩ :: r0) (hq : QR lim u r0) (n : Nat) (hU : ∀ c ∈ cls, usd S.C c ≤ n) (hR : RmB top S.Fr (n + 1)) (L : List Fo.Fn) (last : Int) (hla : last ≤ 1000000) (hs8 : s < 128) (th : Int) (hth : 0 ≤ th ∧ th ≤ 4294967295) (f9 : Nat) (g9 : Int) (hg : Hd.getR l th = (ob 1 f9 g9, 0)) (hf9 : Plc 64 (S.C 1) f9) (w : Nat) (hw : ldW S.m f9 = w) (hw9 : w ≤ 40) (dz : Int) (r1 : List Qt.Qn) (hch : ChQ lim u r0 w (clsz 4 : Int) dz r1 0) (hr : (Hd.allL l 0).length ≠ 0) (h : Nat) (hh : h < 4294967295) (hput : ∀ o, (Hd.putR l o).2 = ((h : Int), 0)) (hget : ∀ o, Hd.getR (Hd.putR l o).1 (h : Int) = (o, 0)) (hok2 : ∀ o, Hd.OkT (Hd.putR l o).1) (gf : Int → Option Value) (gn : Nat) (hgf : gf (h : Int) = none) (ts : Nat) (wa : Option Addr) (wc : Nat) : FSpec Tryz.prog 149 [.pointer (some ⟨kb, 0, none⟩), .agg #[.int .i64 (1 : Int), .int .i64 (ts : Int), .int .i64 (s : Int), .int .i64 (4 : Int), .int .i64 0, .bool false, .int .u64 (0 : Int), .slice wa 0 wc, .slice none 0 0, .int .u32 2, .int .u32 1, .int .u32 th, .int .i64 15]] GV [pts kb 74 [.pointer (some ⟨ib, 0, none⟩)], pts ib 128 [.pointer (some ⟨crb, 0, none⟩), .pointer (some ⟨thb, 0, none⟩), .pointer (some ⟨irb, 0, none⟩), .map (some hm), .map (some gm), .map (some lm)], pts crb 133 [.pointer (some ⟨hob, 0, none⟩)], pts hob 131 [.pointer (some ⟨sb, 0, none⟩)], pts sb 117 [.pointer (some ⟨cb, 0, none⟩), .pointer (some ⟨fb, 0, none⟩)], pts cb 87 [.pointer (some ⟨pb, 0, none⟩), .pointer (some ⟨hb, 0, none⟩), .pointer (some ⟨qb, 0, none⟩)], isPl pb top S, slc 174 5 (some ⟨hb, 0, none⟩) 256 256 (Hd.tabC l), Fo.isF fb L last, mapF encU gm gf gn] (fun _ : Nat × Nat × PS => .tuple #[.int .u64 (h : Int), .int .i64 0]) (fun y => MkR top t S s (packN h 15) y.2.2 ∧ Plc (clsz 4) (y.2.2.C 4) y.2.1 ∧ ((4 : Nat) ≠ 2 → ∀ o, y.2.1 ≤ o → o + 8 ≤ y.2.1 + clsz 4 → ldW y.2.2.m o = 0) ∧ (∃ d : Int, 0 ≤ d ∧ d ≤ 304 ∧ y.2.2.Q = ⟨0, -1, lim, u + d + dz⟩ :: r1) ∧ y.2.2.nx = S.nx ∧ y.2.2.Fr = S.Fr) (fun y => [pts kb 74 [.pointer (some ⟨ib, 0, none⟩)], pts ib 128 [.pointer (some ⟨crb, 0, none⟩), .pointer (some ⟨thb, 0, none⟩), .pointer (some ⟨irb, 0, none⟩), .map (some hm), .map (some gm), .map (some lm)], pts crb 133 [.pointer (some ⟨hob, 0, none⟩)], pts hob 131 [.pointer (some ⟨sb, 0, none⟩)], pts sb 117 [.pointer (some ⟨cb, 0, none⟩), .pointer (some ⟨fb, 0, none⟩)], pts cb 87 [.pointer (some ⟨pb, 0, none⟩), .pointer (some ⟨hb, 0, none⟩), .pointer (some ⟨qb, 0, none⟩)], isPl pb top y.2.2, slc 174 5 (some ⟨hb, 0, none⟩) 256 256 (Hd.tabC (Hd.putR l (ob 4 y.2.1 (w : Int))).1), Fo.isF fb (Fo.addN L last 0 (1, (s : Int))).1 (Fo.addN L last 0 (1, (s : Int))).2.1, mapF encU gm (updF gf (h : Int) (.pointer (some ⟨y.1, 0, none⟩))) (gn + 1), pts y.1 152 [.int .i64 (-1), .int .u64 0]]) := by
 refine fI Tryz.func149 Tryz.ntmps149 ?_
 intro F hF
 refine zz [230] ?_
 haveI : GVI F := ⟨hF⟩
 refine zz [0,1,5] ?_
 refine bx (v := .agg (List.toArray [.int .i64 (1 : Int), .int .i64 (ts : Int), .int .i64 (s : Int), .int .i64 (4 : Int), .int .i64 0, .bool false, .int .u64 (0 : Int), .slice wa 0 wc, .slice none 0 0, .int .u32 2, .int .u32 1, .int .u32 th, .int .i64 15])) (l := [.int .i64 (1 : Int), .int .i64 (ts : Int), .int .i64 (s : Int), .int .i64 (4 : Int), .int .i64 0, .bool false, .int .u64 (0 : Int), .slice wa 0 wc, .slice none 0 0, .int .u32 2, .int .u32 1, .int .u32 th, .int .i64 15]) rfl rfl ?_
 intro bd9
 refine zz [4,4,2,0,1,73,5] ?_
 refine al (l := [.int _ _, .int _ _]) rfl rfl ?_
 intro b2
 refine zz [4,21,67,2,0,0,1,14,78,12,2,17,0,1,30,9,2] ?_
 refine TC.condD rfl (fun hc3 => absurd hc3 ((by omega))) (fun hc3 => ?_)
 refine zz [0,1,30,9,2] ?_
 refine TC.condD rfl (fun hc4 => absurd hc4 ((by omega))) (fun hc4 => ?_)
 refine zz [42,0,158,28,31,25,25,18,159,18,25,58,18,137,25,18,25,90,18,33,25,18,16] ?_
 refine cl (ipmk_gate ib crb hob thb irb hm gm lm sb fb cb pb hb qb top t S l ho hg1 hP hT s hs lim u r0 hA hQ hq n hU hR L last hla hs8 th hth f9 g9 hg hf9 w hw hw9 0 dz r1 hch hr h hh hput hget hok2 0 gf gn hgf) rfl PkL.p GVI.gv ?_
 intro y hy
 refine zz [199,8,83,55,55,41,41,27,0,1,3] ?_
 refine q rfl rfl (conv .u32 .u64 rfl rfl rfl (wU (a := h) (by omega))) ?_
 refine zz [3,4,4,2,11] ?_
 exact Ret.i y [_, _] ⟨rfl, rfl, trivial⟩ rfl hy entS
theorem kmk_irq (kb : Nat) (ib crb hob thb irb hm gm lm : Nat) (sb fb cb pb hb qb top t : Nat) (S : PS) (l : List Hd.Pl) (ho : Hd.OkT l) (hg1 : Hd.getR l 1 = (ob 2 t 0, 0)) (hP : PInv top S) (hT : TI top S t) (s : Nat) (hs : s < 256) (lim u : Int) (r0 : List Qt.Qn) (hA : enA S.m t s = 0) (hQ : S.Q = ⟨0, -1, lim, u⟩ :: r0) (hq : QR lim u r0) (n : Nat) (hU : ∀ c ∈ cls, usd S.C c ≤ n) (hR : RmB top S.Fr (n + 1)) (L : List Fo.Fn) (last : Int) (hla : last ≤ 1000000) (hs8 : s < 128) (th : Int) (hth : 0 ≤ th ∧ th ≤ 4294967295) (f9 : Nat) (g9 : Int) (hg : Hd.getR l th = (ob 1 f9 g9, 0)) (hf9 : Plc 64 (S.C 1) f9) (w : Nat) (hw : ldW S.m f9 = w) (hw9 : w ≤ 40) (dz : Int) (r1 : List Qt.Qn) (hch : ChQ lim u r0 w (clsz 5 : Int) dz r1 0) (hr : (Hd.allL l 0).length ≠ 0) (h : Nat) (hh : h < 4294967295) (hput : ∀ o, (Hd.putR l o).2 = ((h : Int), 0)) (hget : ∀ o, Hd.getR (Hd.putR l o).1 (h : Int) = (o, 0)) (hok2 : ∀ o, Hd.OkT (Hd.putR l o).1) (qf lf : Int → Option Value) (qn ln : Nat) (hqf : qf (h : Int) = none) (hlf : lf (h : Int) = none) (ts : Nat) (wa : Option Addr) (wc : Nat) : FSpec Tryz.prog 149 [.pointer (some ⟨kb, 0, none⟩), .agg #[.int .i64 (1 : Int), .int .i64 (ts : Int), .int .i64 (s : Int), .int .i64 (5 : Int), .int .i64 0, .bool false, .int .u64 (0 : Int), .slice wa 0 wc, .slice none 0 0, .int .u32 2, .int .u32 1, .int .u32 th, .int .i64 15]] GV [pts kb 74 [.pointer (some ⟨ib, 0, none⟩)], pts ib 128 [.pointer (some ⟨crb, 0, none⟩), .pointer (some ⟨thb, 0, none⟩), .pointer (some ⟨irb, 0, none⟩), .map (some hm), .map (some gm), .map (some lm)], pts crb 133 [.pointer (some ⟨hob, 0, none⟩)], pts hob 131 [.pointer (some ⟨sb, 0, none⟩)], pts sb 117 [.pointer (some ⟨cb, 0, none⟩), .pointer (some ⟨fb, 0, none⟩)], pts cb 87 [.pointer (some ⟨pb, 0, none⟩), .pointer (some ⟨hb, 0, none⟩), .pointer (some ⟨qb, 0, none⟩)], isPl pb top S, slc 174 5 (some ⟨hb, 0, none⟩) 256 256 (Hd.tabC l), Fo.isF fb L last, isIq irb qf qn, mapF QM.encI lm lf ln] (fun _ : Nat × Nat × PS => .tuple #[.int .u64 (h : Int), .int .i64 0]) (fun y => MkR top t S s (packN h 15) y.2.2 ∧ Plc (clsz 5) (y.2.2.C 5) y.2.1 ∧ ((5 : Nat) ≠ 2 → ∀ o, y.2.1 ≤ o → o + 8 ≤ y.2.1 + clsz 5 → ldW y.2.2.m o = 0) ∧ (∃ d : Int, 0 ≤ d ∧ d ≤ 304 ∧ y.2.2.Q = ⟨0, -1, lim, u + d + dz⟩ :: r1) ∧ y.2.2.nx = S.nx ∧ y.2.2.Fr = S.Fr) (fun y => [pts kb 74 [.pointer (some ⟨ib, 0, none⟩)], pts ib 128 [.pointer (some ⟨crb, 0, none⟩), .pointer (some ⟨thb, 0, none⟩), .pointer (some ⟨irb, 0, none⟩), .map (some hm), .map (some gm), .map (some lm)], pts crb 133 [.pointer (some ⟨hob, 0, none⟩)], pts hob 131 [.pointer (some ⟨sb, 0, none⟩)], pts sb 117 [.pointer (some ⟨cb, 0, none⟩), .pointer (some ⟨fb, 0, none⟩)], pts cb 87 [.pointer (some ⟨pb, 0, none⟩), .pointer (some ⟨hb, 0, none⟩), .pointer (some ⟨qb, 0, none⟩)], isPl pb top y.2.2, slc 174 5 (some ⟨hb, 0, none⟩) 256 256 (Hd.tabC (Hd.putR l (ob 5 y.2.1 (w : Int))).1), Fo.isF fb (Fo.addN L last 0 (1, (s : Int))).1 (Fo.addN L last 0 (1, (s : Int))).2.1, isIq irb (updF qf (h : Int) (.pointer (some ⟨y.1, 0, none⟩))) (qn + 1), mapF QM.encI lm (updF lf (h : Int) (.int .u64 0)) (ln + 1)]) := by
 refine fI Tryz.func149 Tryz.ntmps149 ?_
 intro F hF
 refine zz [94] ?_
 haveI : GVI F := ⟨hF⟩
 refine zz [0,1,5] ?_
 refine bx (v := .agg (List.toArray [.int .i64 (1 : Int), .int .i64 (ts : Int), .int .i64 (s : Int), .int .i64 (5 : Int), .int .i64 0, .bool false, .int .u64 (0 : Int), .slice wa 0 wc, .slice none 0 0, .int .u32 2, .int .u32 1, .int .u32 th, .int .i64 15])) (l := [.int .i64 (1 : Int), .int .i64 (ts : Int), .int .i64 (s : Int), .int .i64 (5 : Int), .int .i64 0, .bool false, .int .u64 (0 : Int), .slice wa 0 wc, .slice none 0 0, .int .u32 2, .int .u32 1, .int .u32 th, .int .i64 15]) rfl rfl ?_
 intro bd9
 refine zz [4,4,2,0,1,73,5] ?_
 refine al (l := [.int _ _, .int _ _]) rfl rfl ?_
 intro b3
 refine zz [4,21,67,2,0,0,1,14,78,12,2,17,0,1,30,9,2] ?_
 refine TC.condD rfl (fun hc5 => absurd hc5 ((by omega))) (fun hc5 => ?_)
 refine zz [0,1,30,9,2] ?_
 refine TC.condD rfl (fun hc6 => absurd hc6 ((by omega))) (fun hc6 => ?_)
 refine zz [42,0,158,28,31,25,25,18,159,18,25,58,18,137,25,18,25,90,18,33,25,18,16] ?_
 refine cl (ipmk_irq ib crb hob thb irb hm gm lm sb fb cb pb hb qb top t S l ho hg1 hP hT s hs lim u r0 hA hQ hq n hU hR L last hla hs8 th hth f9 g9 hg hf9 w hw hw9 0 dz r1 hch hr h hh hput hget hok2 0 qf lf qn ln hqf hlf) rfl PkL.p GVI.gv ?_
 intro y hy
 refine zz [199,8,83,55,55,41,41,27,0,1,3] ?_
 refine q rfl rfl (conv .u32 .u64 rfl rfl rfl (wU (a := h) (by omega))) ?_
 refine zz [3,4,4,2,11] ?_
 exact Ret.i y [_, _] ⟨rfl, rfl, trivial⟩ rfl hy entS
theorem kmk_fac (kb : Nat) (ib crb hob thb irb hm gm lm : Nat) (sb fb cb pb hb qb top t : Nat) (S : PS) (l : List Hd.Pl) (ho : Hd.OkT l) (hg1 : Hd.getR l 1 = (ob 2 t 0, 0)) (hP : PInv top S) (hT : TI top S t) (s : Nat) (hs : s < 256) (lim u : Int) (r0 : List Qt.Qn) (hA : enA S.m t s = 0) (hQ : S.Q = ⟨0, -1, lim, u⟩ :: r0) (hq : QR lim u r0) (n : Nat) (hU : ∀ c ∈ cls, usd S.C c ≤ n) (hR : RmB top S.Fr (n + 1)) (L : List Fo.Fn) (last : Int) (hla : last ≤ 1000000) (hs8 : s < 128) (th : Int) (hth : 0 ≤ th ∧ th ≤ 4294967295) (f9 : Nat) (g9 : Int) (hg : Hd.getR l th = (ob 1 f9 g9, 0)) (hf9 : Plc 64 (S.C 1) f9) (w : Nat) (hw : ldW S.m f9 = w) (hw9 : w ≤ 40) (x9 : Nat) (hx9 : x9 ≤ 1073741824) (dz : Int) (r1 : List Qt.Qn) (hch : ChQ lim u r0 w 64 dz r1 0) (hr : (Hd.allL l 0).length ≠ 0) (h : Nat) (hh : h < 4294967295) (hput : ∀ o, (Hd.putR l o).2 = ((h : Int), 0)) (hnx : S.nx ≤ 1000000) (idn : Nat) (hid : idn ≤ 1000000) (r2 : List Qt.Qn) (hcv : ∀ v, u ≤ v → v ≤ u + 304 → Qt.carveQ (⟨0, -1, lim, v + dz⟩ :: r1) S.nx (w : Int) (x9 : Int) = (⟨0, -1, lim, v + dz⟩ :: r2, S.nx + 1, (idn : Int), 0)) (hget : ∀ o, Hd.getR (Hd.putR l o).1 (h : Int) = (o, 0)) (hok2 : ∀ o, Hd.OkT (Hd.putR l o).1) (ts : Nat) (wa : Option Addr) (wc : Nat) : FSpec Tryz.prog 149 [.pointer (some ⟨kb, 0, none⟩), .agg #[.int .i64 (1 : Int), .int .i64 (ts : Int), .int .i64 (s : Int), .int .i64 (1 : Int), .int .i64 0, .bool false, .int .u64 (x9 : Int), .slice wa 0 wc, .slice none 0 0, .int .u32 2, .int .u32 1, .int .u32 th, .int .i64 15]] GV [pts kb 74 [.pointer (some ⟨ib, 0, none⟩)], pts ib 128 [.pointer (some ⟨crb, 0, none⟩), .pointer (some ⟨thb, 0, none⟩), .pointer (some ⟨irb, 0, none⟩), .map (some hm), .map (some gm), .map (some lm)], pts crb 133 [.pointer (some ⟨hob, 0, none⟩)], pts hob 131 [.pointer (some ⟨sb, 0, none⟩)], pts sb 117 [.pointer (some ⟨cb, 0, none⟩), .pointer (some ⟨fb, 0, none⟩)], pts cb 87 [.pointer (some ⟨pb, 0, none⟩), .pointer (some ⟨hb, 0, none⟩), .pointer (some ⟨qb, 0, none⟩)], isPl pb top S, slc 174 5 (some ⟨hb, 0, none⟩) 256 256 (Hd.tabC l), Fo.isF fb L last] (fun _ : Nat × PS => .tuple #[.int .u64 (h : Int), .int .i64 0]) (fun y => MkR top t S s (packN h 15) y.2 ∧ Plc (clsz 1) (y.2.C 1) y.1 ∧ ldW y.2.m y.1 = idn ∧ (∃ d : Int, 0 ≤ d ∧ d ≤ 304 ∧ y.2.Q = ⟨0, -1, lim, u + d + dz⟩ :: r2) ∧ y.2.nx = S.nx + 1 ∧ y.2.Fr = S.Fr) (fun y => [pts kb 74 [.pointer (some ⟨ib, 0, none⟩)], pts ib 128 [.pointer (some ⟨crb, 0, none⟩), .pointer (some ⟨thb, 0, none⟩), .pointer (some ⟨irb, 0, none⟩), .map (some hm), .map (some gm), .map (some lm)], pts crb 133 [.pointer (some ⟨hob, 0, none⟩)], pts hob 131 [.pointer (some ⟨sb, 0, none⟩)], pts sb 117 [.pointer (some ⟨cb, 0, none⟩), .pointer (some ⟨fb, 0, none⟩)], pts cb 87 [.pointer (some ⟨pb, 0, none⟩), .pointer (some ⟨hb, 0, none⟩), .pointer (some ⟨qb, 0, none⟩)], isPl pb top y.2, slc 174 5 (some ⟨hb, 0, none⟩) 256 256 (Hd.tabC (Hd.putR l (ob 1 y.1 (w : Int))).1), Fo.isF fb (Fo.addN L last 0 (1, (s : Int))).1 (Fo.addN L last 0 (1, (s : Int))).2.1]) := by
 refine fI Tryz.func149 Tryz.ntmps149 ?_
 intro F hF
 refine zz [156] ?_
 haveI : GVI F := ⟨hF⟩
 refine zz [0,1,5] ?_
 refine bx (v := .agg (List.toArray [.int .i64 (1 : Int), .int .i64 (ts : Int), .int .i64 (s : Int), .int .i64 (1 : Int), .int .i64 0, .bool false, .int .u64 (x9 : Int), .slice wa 0 wc, .slice none 0 0, .int .u32 2, .int .u32 1, .int .u32 th, .int .i64 15])) (l := [.int .i64 (1 : Int), .int .i64 (ts : Int), .int .i64 (s : Int), .int .i64 (1 : Int), .int .i64 0, .bool false, .int .u64 (x9 : Int), .slice wa 0 wc, .slice none 0 0, .int .u32 2, .int .u32 1, .int .u32 th, .int .i64 15]) rfl rfl ?_
 intro bd9
 refine zz [4,4,2,0,1,73,5] ?_
 refine al (l := [.int _ _, .int _ _]) rfl rfl ?_
 intro b4
 refine zz [4,21,67,2,0,0,1,14,78,12,2,17,0,1,30,9,2] ?_
 refine TC.condD rfl (fun hc7 => absurd hc7 ((by omega))) (fun hc7 => ?_)
 refine zz [0,1,30,9,2,40,0,0,1,14,225,12,107,2] ?_
 refine TC.condD rfl (fun hc8 => absurd hc8 ((by omega))) (fun hc8 => ?_)
 refine zz [7,1,14,225,12,188,4,63,0,158,28,31,25,25,18,159,18,25,58,18,137,25,18,25,90,18,33,25,18,16] ?_
 refine cl (ipmk_fac ib crb hob thb irb hm gm lm sb fb cb pb hb qb top t S l ho hg1 hP hT s hs lim u r0 hA hQ hq n hU hR L last hla hs8 th hth f9 g9 hg hf9 w hw hw9 (x9 : Int) (by omega) dz r1 hch hr h hh hput hnx idn hid r2 hcv hget hok2 0) rfl PkL.p GVI.gv ?_
 intro y hy
 refine zz [121,8,83,55,55,41,41,27,0,1,3] ?_
 refine q rfl rfl (conv .u32 .u64 rfl rfl rfl (wU (a := h) (by omega))) ?_
 refine zz [3,4,4,2,11] ?_
 exact Ret.i y [_, _] ⟨rfl, rfl, trivial⟩ rfl hy entS
theorem kmk_fr (kb : Nat) (ib crb hob thb irb hm gm lm : Nat) (sb fb cb pb hb qb top t : Nat) (S : PS) (l : List Hd.Pl) (ho : Hd.OkT l) (hg1 : Hd.getR l 1 = (ob 2 t 0, 0)) (hP : PInv top S) (hT : TI top S t) (s : Nat) (hs : s < 256) (lim u : Int) (r0 : List Qt.Qn) (hA : enA S.m t s = 0) (hQ : S.Q = ⟨0, -1, lim, u⟩ :: r0) (hq : QR lim u r0) (n : Nat) (hU : ∀ c ∈ cls, usd S.C c ≤ n) (hR : RmB top S.Fr (n + 1)) (L : List Fo.Fn) (last : Int) (hla : last ≤ 1000000) (hs8 : 128 ≤ s) (th : Int) (hth : 0 ≤ th ∧ th ≤ 4294967295) (f9 : Nat) (g9 : Int) (hg : Hd.getR l th = (ob 1 f9 g9, 0)) (hf9 : Plc 64 (S.C 1) f9) (w : Nat) (hw : ldW S.m f9 = w) (hw9 : w ≤ 40) (dz : Int) (r1 : List Qt.Qn) (hch : ChQ lim u r0 w 1024 dz r1 0) (hr : (Hd.allL l 0).length ≠ 0) (h : Nat) (hh : h < 4294967295) (hput : ∀ o, (Hd.putR l o).2 = ((h : Int), 0)) (hget : ∀ o, Hd.getR (Hd.putR l o).1 (h : Int) = (o, 0)) (hok2 : ∀ o, Hd.OkT (Hd.putR l o).1) (ts : Nat) (wa : Option Addr) (wc : Nat) : FSpec Tryz.prog 149 [.pointer (some ⟨kb, 0, none⟩), .agg #[.int .i64 (1 : Int), .int .i64 (ts : Int), .int .i64 (s : Int), .int .i64 (8 : Int), .int .i64 0, .bool false, .int .u64 (0 : Int), .slice wa 0 wc, .slice none 0 0, .int .u32 2, .int .u32 1, .int .u32 th, .int .i64 15]] GV [pts kb 74 [.pointer (some ⟨ib, 0, none⟩)], pts ib 128 [.pointer (some ⟨crb, 0, none⟩), .pointer (some ⟨thb, 0, none⟩), .pointer (some ⟨irb, 0, none⟩), .map (some hm), .map (some gm), .map (some lm)], pts crb 133 [.pointer (some ⟨hob, 0, none⟩)], pts hob 131 [.pointer (some ⟨sb, 0, none⟩)], pts sb 117 [.pointer (some ⟨cb, 0, none⟩), .pointer (some ⟨fb, 0, none⟩)], pts cb 87 [.pointer (some ⟨pb, 0, none⟩), .pointer (some ⟨hb, 0, none⟩), .pointer (some ⟨qb, 0, none⟩)], isPl pb top S, slc 174 5 (some ⟨hb, 0, none⟩) 256 256 (Hd.tabC l), Fo.isF fb L last] (fun _ : Nat × PS => .tuple #[.int .u64 (h : Int), .int .i64 0]) (fun y => MkR top t S s (packN h 15) y.2 ∧ y.2.Fr = y.1 :: S.Fr ∧ (∃ d : Int, 0 ≤ d ∧ d ≤ 304 ∧ y.2.Q = ⟨0, -1, lim, u + d + dz⟩ :: r1) ∧ y.2.nx = S.nx) (fun y => [pts kb 74 [.pointer (some ⟨ib, 0, none⟩)], pts ib 128 [.pointer (some ⟨crb, 0, none⟩), .pointer (some ⟨thb, 0, none⟩), .pointer (some ⟨irb, 0, none⟩), .map (some hm), .map (some gm), .map (some lm)], pts crb 133 [.pointer (some ⟨hob, 0, none⟩)], pts hob 131 [.pointer (some ⟨sb, 0, none⟩)], pts sb 117 [.pointer (some ⟨cb, 0, none⟩), .pointer (some ⟨fb, 0, none⟩)], pts cb 87 [.pointer (some ⟨pb, 0, none⟩), .pointer (some ⟨hb, 0, none⟩), .pointer (some ⟨qb, 0, none⟩)], isPl pb top y.2, slc 174 5 (some ⟨hb, 0, none⟩) 256 256 (Hd.tabC (Hd.putR l (ob 8 (y.1 * 1024) (w : Int))).1), Fo.isF fb (Fo.addN L last 0 (1, (s : Int))).1 (Fo.addN L last 0 (1, (s : Int))).2.1]) := by
 refine fI Tryz.func149 Tryz.ntmps149 ?_
 intro F hF
 refine zz [156] ?_
 haveI : GVI F := ⟨hF⟩
 refine zz [0,1,5] ?_
 refine bx (v := .agg (List.toArray [.int .i64 (1 : Int), .int .i64 (ts : Int), .int .i64 (s : Int), .int .i64 (8 : Int), .int .i64 0, .bool false, .int .u64 (0 : Int), .slice wa 0 wc, .slice none 0 0, .int .u32 2, .int .u32 1, .int .u32 th, .int .i64 15])) (l := [.int .i64 (1 : Int), .int .i64 (ts : Int), .int .i64 (s : Int), .int .i64 (8 : Int), .int .i64 0, .bool false, .int .u64 (0 : Int), .slice wa 0 wc, .slice none 0 0, .int .u32 2, .int .u32 1, .int .u32 th, .int .i64 15]) rfl rfl ?_
 intro bd9
 refine zz [4,4,2,0,1,73,5] ?_
 refine al (l := [.int _ _, .int _ _]) rfl rfl ?_
 intro b5
 refine zz [4,21,67,2,0,0,1,14,78,12,2,17,0,1,30,9,2] ?_
 refine TC.condD rfl (fun hc9 => absurd hc9 ((by omega))) (fun hc9 => ?_)
 refine zz [0,1,30,9,2] ?_
 refine TC.condD rfl (fun hc10 => absurd hc10 ((by omega))) (fun hc10 => ?_)
 refine zz [42,0,158,28,31,25,25,18,159,18,25,58,18,137,25,18,25,90,18,33,25,18,16] ?_
 refine cl (ipmk_fr ib crb hob thb irb hm gm lm sb fb cb pb hb qb top t S l ho hg1 hP hT s hs lim u r0 hA hQ hq n hU hR L last hla hs8 th hth f9 g9 hg hf9 w hw hw9 0 dz r1 hch hr h hh hput hget hok2 0) rfl PkL.p GVI.gv ?_
 intro y hy
 refine zz [121,8,83,55,55,41,41,27,0,1,3] ?_
 refine q rfl rfl (conv .u32 .u64 rfl rfl rfl (wU (a := h) (by omega))) ?_
 refine zz [3,4,4,2,11] ?_
 exact Ret.i y [_, _] ⟨rfl, rfl, trivial⟩ rfl hy entS
theorem kmk_no (kb : Nat) (ib crb hob thb irb hm gm lm : Nat) (sb fb cb pb hb qb top t : Nat) (S : PS) (l : List Hd.Pl) (ho : Hd.OkT l) (hg1 : Hd.getR l 1 = (ob 2 t 0, 0)) (hP : PInv top S) (hT : TI top S t) (s : Nat) (hs : s < 256) (lim u : Int) (r0 : List Qt.Qn) (hA : enA S.m t s = 0) (hQ : S.Q = ⟨0, -1, lim, u⟩ :: r0) (hq : QR lim u r0) (n : Nat) (hU : ∀ c ∈ cls, usd S.C c ≤ n) (hR : RmB top S.Fr (n + 1)) (L : List Fo.Fn) (last : Int) (hla : last ≤ 1000000) (hs8 : s < 128) (th : Int) (hth : 0 ≤ th ∧ th ≤ 4294967295) (f9 : Nat) (g9 : Int) (hg : Hd.getR l th = (ob 1 f9 g9, 0)) (hf9 : Plc 64 (S.C 1) f9) (w : Nat) (hw : ldW S.m f9 = w) (hw9 : w ≤ 40) (c : Nat) (hc2 : 2 ≤ c ∧ c ≤ 5) (er : Int) (dz : Int) (r1 : List Qt.Qn) (hch : ChQ lim u r0 w (clsz c : Int) dz r1 er) (her : er ≠ 0) (hc3 : c ≠ 3) (ts : Nat) (wa : Option Addr) (wc : Nat) : FSpec Tryz.prog 149 [.pointer (some ⟨kb, 0, none⟩), .agg #[.int .i64 (1 : Int), .int .i64 (ts : Int), .int .i64 (s : Int), .int .i64 (c : Int), .int .i64 0, .bool false, .int .u64 (0 : Int), .slice wa 0 wc, .slice none 0 0, .int .u32 2, .int .u32 1, .int .u32 th, .int .i64 15]] GV [pts kb 74 [.pointer (some ⟨ib, 0, none⟩)], pts ib 128 [.pointer (some ⟨crb, 0, none⟩), .pointer (some ⟨thb, 0, none⟩), .pointer (some ⟨irb, 0, none⟩), .map (some hm), .map (some gm), .map (some lm)], pts crb 133 [.pointer (some ⟨hob, 0, none⟩)], pts hob 131 [.pointer (some ⟨sb, 0, none⟩)], pts sb 117 [.pointer (some ⟨cb, 0, none⟩), .pointer (some ⟨fb, 0, none⟩)], pts cb 87 [.pointer (some ⟨pb, 0, none⟩), .pointer (some ⟨hb, 0, none⟩), .pointer (some ⟨qb, 0, none⟩)], isPl pb top S, slc 174 5 (some ⟨hb, 0, none⟩) 256 256 (Hd.tabC l), Fo.isF fb L last] (fun _ : PS => .tuple #[.int .u64 ((0 : Nat) : Int), .int .i64 er]) (fun y => BackR top t S y) (fun y => [pts kb 74 [.pointer (some ⟨ib, 0, none⟩)], pts ib 128 [.pointer (some ⟨crb, 0, none⟩), .pointer (some ⟨thb, 0, none⟩), .pointer (some ⟨irb, 0, none⟩), .map (some hm), .map (some gm), .map (some lm)], pts crb 133 [.pointer (some ⟨hob, 0, none⟩)], pts hob 131 [.pointer (some ⟨sb, 0, none⟩)], pts sb 117 [.pointer (some ⟨cb, 0, none⟩), .pointer (some ⟨fb, 0, none⟩)], pts cb 87 [.pointer (some ⟨pb, 0, none⟩), .pointer (some ⟨hb, 0, none⟩), .pointer (some ⟨qb, 0, none⟩)], isPl pb top y, slc 174 5 (some ⟨hb, 0, none⟩) 256 256 (Hd.tabC l), Fo.isF fb L last]) := by
 refine fI Tryz.func149 Tryz.ntmps149 ?_
 intro F hF
 refine zz [156] ?_
 haveI : GVI F := ⟨hF⟩
 refine zz [0,1,5] ?_
 refine bx (v := .agg (List.toArray [.int .i64 (1 : Int), .int .i64 (ts : Int), .int .i64 (s : Int), .int .i64 (c : Int), .int .i64 0, .bool false, .int .u64 (0 : Int), .slice wa 0 wc, .slice none 0 0, .int .u32 2, .int .u32 1, .int .u32 th, .int .i64 15])) (l := [.int .i64 (1 : Int), .int .i64 (ts : Int), .int .i64 (s : Int), .int .i64 (c : Int), .int .i64 0, .bool false, .int .u64 (0 : Int), .slice wa 0 wc, .slice none 0 0, .int .u32 2, .int .u32 1, .int .u32 th, .int .i64 15]) rfl rfl ?_
 intro bd9
 refine zz [4,4,2,0,1,73,5] ?_
 refine al (l := [.int _ _, .int _ _]) rfl rfl ?_
 intro b6
 refine zz [4,21,67,2,0,0,1,14,78,12,2,17,0,1,30,9,2] ?_
 refine TC.condD rfl (fun hc11 => absurd hc11 ((by omega))) (fun hc11 => ?_)
 refine zz [0,1,30,9,2] ?_
 refine TC.condD rfl (fun hc12 => absurd hc12 ((by omega))) (fun hc12 => ?_)
 refine zz [42,0,158,28,31,25,25,18,159,18,25,58,18,137,25,18,25,90,18,33,25,18,16] ?_
 refine cl (ipmk_no ib crb hob thb irb hm gm lm sb fb cb pb hb qb top t S l ho hg1 hP hT s hs lim u r0 hA hQ hq n hU hR L last hla hs8 th hth f9 g9 hg hf9 w hw hw9 c hc2 0 (by omega) er dz r1 hch her 0 hc3) rfl PkL.p GVI.gv ?_
 intro y hy
 refine zz [121,8,83,55,55,41,41,27,0,1,3] ?_
 refine q rfl rfl (conv .u32 .u64 rfl rfl rfl (wU (a := 0) (by decide))) ?_
 refine zz [3,4,4,2,11] ?_
 exact Ret.i y [_, _] ⟨rfl, rfl, trivial⟩ rfl hy entS
theorem kmk_nofr (kb : Nat) (ib crb hob thb irb hm gm lm : Nat) (sb fb cb pb hb qb top t : Nat) (S : PS) (l : List Hd.Pl) (ho : Hd.OkT l) (hg1 : Hd.getR l 1 = (ob 2 t 0, 0)) (hP : PInv top S) (hT : TI top S t) (s : Nat) (hs : s < 256) (lim u : Int) (r0 : List Qt.Qn) (hA : enA S.m t s = 0) (hQ : S.Q = ⟨0, -1, lim, u⟩ :: r0) (hq : QR lim u r0) (n : Nat) (hU : ∀ c ∈ cls, usd S.C c ≤ n) (hR : RmB top S.Fr (n + 1)) (L : List Fo.Fn) (last : Int) (hla : last ≤ 1000000) (hs8 : 128 ≤ s) (th : Int) (hth : 0 ≤ th ∧ th ≤ 4294967295) (f9 : Nat) (g9 : Int) (hg : Hd.getR l th = (ob 1 f9 g9, 0)) (hf9 : Plc 64 (S.C 1) f9) (w : Nat) (hw : ldW S.m f9 = w) (hw9 : w ≤ 40) (er : Int) (dz : Int) (r1 : List Qt.Qn) (hch : ChQ lim u r0 w 1024 dz r1 er) (her : er ≠ 0) (ts : Nat) (wa : Option Addr) (wc : Nat) : FSpec Tryz.prog 149 [.pointer (some ⟨kb, 0, none⟩), .agg #[.int .i64 (1 : Int), .int .i64 (ts : Int), .int .i64 (s : Int), .int .i64 (8 : Int), .int .i64 0, .bool false, .int .u64 (0 : Int), .slice wa 0 wc, .slice none 0 0, .int .u32 2, .int .u32 1, .int .u32 th, .int .i64 15]] GV [pts kb 74 [.pointer (some ⟨ib, 0, none⟩)], pts ib 128 [.pointer (some ⟨crb, 0, none⟩), .pointer (some ⟨thb, 0, none⟩), .pointer (some ⟨irb, 0, none⟩), .map (some hm), .map (some gm), .map (some lm)], pts crb 133 [.pointer (some ⟨hob, 0, none⟩)], pts hob 131 [.pointer (some ⟨sb, 0, none⟩)], pts sb 117 [.pointer (some ⟨cb, 0, none⟩), .pointer (some ⟨fb, 0, none⟩)], pts cb 87 [.pointer (some ⟨pb, 0, none⟩), .pointer (some ⟨hb, 0, none⟩), .pointer (some ⟨qb, 0, none⟩)], isPl pb top S, slc 174 5 (some ⟨hb, 0, none⟩) 256 256 (Hd.tabC l), Fo.isF fb L last] (fun _ : PS => .tuple #[.int .u64 ((0 : Nat) : Int), .int .i64 er]) (fun y => BackR top t S y) (fun y => [pts kb 74 [.pointer (some ⟨ib, 0, none⟩)], pts ib 128 [.pointer (some ⟨crb, 0, none⟩), .pointer (some ⟨thb, 0, none⟩), .pointer (some ⟨irb, 0, none⟩), .map (some hm), .map (some gm), .map (some lm)], pts crb 133 [.pointer (some ⟨hob, 0, none⟩)], pts hob 131 [.pointer (some ⟨sb, 0, none⟩)], pts sb 117 [.pointer (some ⟨cb, 0, none⟩), .pointer (some ⟨fb, 0, none⟩)], pts cb 87 [.pointer (some ⟨pb, 0, none⟩), .pointer (some ⟨hb, 0, none⟩), .pointer (some ⟨qb, 0, none⟩)], isPl pb top y, slc 174 5 (some ⟨hb, 0, none⟩) 256 256 (Hd.tabC l), Fo.isF fb L last]) := by
 refine fI Tryz.func149 Tryz.ntmps149 ?_
 intro F hF
 refine zz [156] ?_
 haveI : GVI F := ⟨hF⟩
 refine zz [0,1,5] ?_
 refine bx (v := .agg (List.toArray [.int .i64 (1 : Int), .int .i64 (ts : Int), .int .i64 (s : Int), .int .i64 (8 : Int), .int .i64 0, .bool false, .int .u64 (0 : Int), .slice wa 0 wc, .slice none 0 0, .int .u32 2, .int .u32 1, .int .u32 th, .int .i64 15])) (l := [.int .i64 (1 : Int), .int .i64 (ts : Int), .int .i64 (s : Int), .int .i64 (8 : Int), .int .i64 0, .bool false, .int .u64 (0 : Int), .slice wa 0 wc, .slice none 0 0, .int .u32 2, .int .u32 1, .int .u32 th, .int .i64 15]) rfl rfl ?_
 intro bd9
 refine zz [4,4,2,0,1,73,5] ?_
 refine al (l := [.int _ _, .int _ _]) rfl rfl ?_
 intro b7
 refine zz [4,21,67,2,0,0,1,14,78,12,2,17,0,1,30,9,2] ?_
 refine TC.condD rfl (fun hc13 => absurd hc13 ((by omega))) (fun hc13 => ?_)
 refine zz [0,1,30,9,2] ?_
 refine TC.condD rfl (fun hc14 => absurd hc14 ((by omega))) (fun hc14 => ?_)
 refine zz [42,0,158,28,31,25,25,18,159,18,25,58,18,137,25,18,25,90,18,33,25,18,16] ?_
 refine cl (ipmk_nofr ib crb hob thb irb hm gm lm sb fb cb pb hb qb top t S l ho hg1 hP hT s hs lim u r0 hA hQ hq n hU hR L last hla hs8 th hth f9 g9 hg hf9 w hw hw9 0 er dz r1 hch her 0) rfl PkL.p GVI.gv ?_
 intro y hy
 refine zz [121,8,83,55,55,41,41,27,0,1,3] ?_
 refine q rfl rfl (conv .u32 .u64 rfl rfl rfl (wU (a := 0) (by decide))) ?_
 refine zz [3,4,4,2,11] ?_
 exact Ret.i y [_, _] ⟨rfl, rfl, trivial⟩ rfl hy entS
theorem kdo_task (kb : Nat) (ib crb hob thb irb hm gm lm : Nat) (sb fb cb pb hb qb top t : Nat) (S : PS) (l : List Hd.Pl) (ho : Hd.OkT l) (hg1 : Hd.getR l 1 = (ob 2 t 0, 0)) (hP : PInv top S) (hT : TI top S t) (s : Nat) (hs : s < 256) (lim u : Int) (r0 : List Qt.Qn) (hA : enA S.m t s = 0) (hQ : S.Q = ⟨0, -1, lim, u⟩ :: r0) (hq : QR lim u r0) (n : Nat) (hU : ∀ c ∈ cls, usd S.C c ≤ n) (hR : RmB top S.Fr (n + 1)) (L : List Fo.Fn) (last : Int) (hla : last ≤ 1000000) (hs8 : s < 128) (th : Int) (hth : 0 ≤ th ∧ th ≤ 4294967295) (f9 : Nat) (g9 : Int) (hg : Hd.getR l th = (ob 1 f9 g9, 0)) (hf9 : Plc 64 (S.C 1) f9) (w : Nat) (hw : ldW S.m f9 = w) (hw9 : w ≤ 40) (dz : Int) (r1 : List Qt.Qn) (hch : ChQ lim u r0 w (clsz 2 : Int) dz r1 0) (hr : (Hd.allL l 0).length ≠ 0) (h : Nat) (hh : h < 4294967295) (hput : ∀ o, (Hd.putR l o).2 = ((h : Int), 0)) (hget : ∀ o, Hd.getR (Hd.putR l o).1 (h : Int) = (o, 0)) (hok2 : ∀ o, Hd.OkT (Hd.putR l o).1) (ts : Nat) (wa : Option Addr) (wc : Nat) (T : TS) (hf : Int → Option Value) (hn : Nat) : FSpec Tryz.prog 107 [.pointer (some ⟨kb, 0, none⟩), .agg #[.int .i64 (1 : Int), .int .i64 (ts : Int), .int .i64 (s : Int), .int .i64 (2 : Int), .int .i64 0, .bool false, .int .u64 (0 : Int), .slice wa 0 wc, .slice none 0 0, .int .u32 2, .int .u32 1, .int .u32 th, .int .i64 15]] GV [pts kb 74 [.pointer (some ⟨ib, 0, none⟩)], pts ib 128 [.pointer (some ⟨crb, 0, none⟩), .pointer (some ⟨thb, 0, none⟩), .pointer (some ⟨irb, 0, none⟩), .map (some hm), .map (some gm), .map (some lm)], pts crb 133 [.pointer (some ⟨hob, 0, none⟩)], pts hob 131 [.pointer (some ⟨sb, 0, none⟩)], pts sb 117 [.pointer (some ⟨cb, 0, none⟩), .pointer (some ⟨fb, 0, none⟩)], pts cb 87 [.pointer (some ⟨pb, 0, none⟩), .pointer (some ⟨hb, 0, none⟩), .pointer (some ⟨qb, 0, none⟩)], isPl pb top S, slc 174 5 (some ⟨hb, 0, none⟩) 256 256 (Hd.tabC l), isT thb T, mapF encU hm hf hn, (EX fun _ : Unit => pure' True (sepL [Fo.isF fb L last]))] (fun _ : Nat × PS => .tuple #[.int .u64 (h : Int), .int .i64 0]) (fun y => MkR top t S s (packN h 15) y.2 ∧ Plc (clsz 2) (y.2.C 2) y.1 ∧ ((2 : Nat) ≠ 2 → ∀ o, y.1 ≤ o → o + 8 ≤ y.1 + clsz 2 → ldW y.2.m o = 0) ∧ (∃ d : Int, 0 ≤ d ∧ d ≤ 304 ∧ y.2.Q = ⟨0, -1, lim, u + d + dz⟩ :: r1) ∧ y.2.nx = S.nx ∧ y.2.Fr = S.Fr) (fun y => [pts kb 74 [.pointer (some ⟨ib, 0, none⟩)], pts ib 128 [.pointer (some ⟨crb, 0, none⟩), .pointer (some ⟨thb, 0, none⟩), .pointer (some ⟨irb, 0, none⟩), .map (some hm), .map (some gm), .map (some lm)], isT thb T, mapF encU hm hf hn, (EX fun _ : Unit => pure' True (sepL [pts crb 133 [.pointer (some ⟨hob, 0, none⟩)], pts hob 131 [.pointer (some ⟨sb, 0, none⟩)], pts sb 117 [.pointer (some ⟨cb, 0, none⟩), .pointer (some ⟨fb, 0, none⟩)], pts cb 87 [.pointer (some ⟨pb, 0, none⟩), .pointer (some ⟨hb, 0, none⟩), .pointer (some ⟨qb, 0, none⟩)], isPl pb top y.2, slc 174 5 (some ⟨hb, 0, none⟩) 256 256 (Hd.tabC (Hd.putR l (ob 2 y.1 (w : Int))).1), Fo.isF fb (Fo.addN L last 0 (1, (s : Int))).1 (Fo.addN L last 0 (1, (s : Int))).2.1]))]) := by
 refine fI Tryz.func107 Tryz.ntmps107 ?_
 intro F hF
 refine zz [94] ?_
 haveI : GVI F := ⟨hF⟩
 refine TC.open 10 rfl (fun x0 hx0 => ?_)
 obtain ⟨⟩ := x0
 clear hx0
 refine zz [94,0,1,5] ?_
 refine bx (v := .agg (List.toArray [.int .i64 (1 : Int), .int .i64 (ts : Int), .int .i64 (s : Int), .int .i64 (2 : Int), .int .i64 0, .bool false, .int .u64 (0 : Int), .slice wa 0 wc, .slice none 0 0, .int .u32 2, .int .u32 1, .int .u32 th, .int .i64 15])) (l := [.int .i64 (1 : Int), .int .i64 (ts : Int), .int .i64 (s : Int), .int .i64 (2 : Int), .int .i64 0, .bool false, .int .u64 (0 : Int), .slice wa 0 wc, .slice none 0 0, .int .u32 2, .int .u32 1, .int .u32 th, .int .i64 15]) rfl rfl ?_
 intro bd9
 refine zz [4,4,2,0,0,1,14,14,12,2,17,0,1,30,9,2,40,0,1,6] ?_
 refine q rfl rfl (ldN 13 (vs := [.int .i64 (1 : Int), .int .i64 (ts : Int), .int .i64 (s : Int), .int .i64 (2 : Int), .int .i64 0, .bool false, .int .u64 (0 : Int), .slice wa 0 wc, .slice none 0 0, .int .u32 2, .int .u32 1, .int .u32 th, .int .i64 15]) rfl rfl (by kernel_rfl) rfl) ?_
 refine e rfl ?_
 refine cl (kmk_task kb ib crb hob thb irb hm gm lm sb fb cb pb hb qb top t S l ho hg1 hP hT s hs lim u r0 hA hQ hq n hU hR L last hla hs8 th hth f9 g9 hg hf9 w hw hw9 dz r1 hch hr h hh hput hget hok2 ts wa wc) rfl PkL.p GVI.gv ?_
 intro y hy
 refine zz [120,15,15,4,4,2,56] ?_
 exact Ret.i y [_, _] ⟨rfl, rfl, trivial⟩ rfl hy (ent_take 0 rfl (ent_take 0 rfl (ent_take 8 rfl (ent_take 8 rfl (ent_close () trivial entS)))))
theorem kdo_gate (kb : Nat) (ib crb hob thb irb hm gm lm : Nat) (sb fb cb pb hb qb top t : Nat) (S : PS) (l : List Hd.Pl) (ho : Hd.OkT l) (hg1 : Hd.getR l 1 = (ob 2 t 0, 0)) (hP : PInv top S) (hT : TI top S t) (s : Nat) (hs : s < 256) (lim u : Int) (r0 : List Qt.Qn) (hA : enA S.m t s = 0) (hQ : S.Q = ⟨0, -1, lim, u⟩ :: r0) (hq : QR lim u r0) (n : Nat) (hU : ∀ c ∈ cls, usd S.C c ≤ n) (hR : RmB top S.Fr (n + 1)) (L : List Fo.Fn) (last : Int) (hla : last ≤ 1000000) (hs8 : s < 128) (th : Int) (hth : 0 ≤ th ∧ th ≤ 4294967295) (f9 : Nat) (g9 : Int) (hg : Hd.getR l th = (ob 1 f9 g9, 0)) (hf9 : Plc 64 (S.C 1) f9) (w : Nat) (hw : ldW S.m f9 = w) (hw9 : w ≤ 40) (dz : Int) (r1 : List Qt.Qn) (hch : ChQ lim u r0 w (clsz 4 : Int) dz r1 0) (hr : (Hd.allL l 0).length ≠ 0) (h : Nat) (hh : h < 4294967295) (hput : ∀ o, (Hd.putR l o).2 = ((h : Int), 0)) (hget : ∀ o, Hd.getR (Hd.putR l o).1 (h : Int) = (o, 0)) (hok2 : ∀ o, Hd.OkT (Hd.putR l o).1) (gf : Int → Option Value) (gn : Nat) (hgf : gf (h : Int) = none) (ts : Nat) (wa : Option Addr) (wc : Nat) (T : TS) (hf : Int → Option Value) (hn : Nat) : FSpec Tryz.prog 107 [.pointer (some ⟨kb, 0, none⟩), .agg #[.int .i64 (1 : Int), .int .i64 (ts : Int), .int .i64 (s : Int), .int .i64 (4 : Int), .int .i64 0, .bool false, .int .u64 (0 : Int), .slice wa 0 wc, .slice none 0 0, .int .u32 2, .int .u32 1, .int .u32 th, .int .i64 15]] GV [pts kb 74 [.pointer (some ⟨ib, 0, none⟩)], pts ib 128 [.pointer (some ⟨crb, 0, none⟩), .pointer (some ⟨thb, 0, none⟩), .pointer (some ⟨irb, 0, none⟩), .map (some hm), .map (some gm), .map (some lm)], pts crb 133 [.pointer (some ⟨hob, 0, none⟩)], pts hob 131 [.pointer (some ⟨sb, 0, none⟩)], pts sb 117 [.pointer (some ⟨cb, 0, none⟩), .pointer (some ⟨fb, 0, none⟩)], pts cb 87 [.pointer (some ⟨pb, 0, none⟩), .pointer (some ⟨hb, 0, none⟩), .pointer (some ⟨qb, 0, none⟩)], isPl pb top S, slc 174 5 (some ⟨hb, 0, none⟩) 256 256 (Hd.tabC l), isT thb T, mapF encU hm hf hn, (EX fun _ : Unit => pure' True (sepL [Fo.isF fb L last, mapF encU gm gf gn]))] (fun _ : Nat × Nat × PS => .tuple #[.int .u64 (h : Int), .int .i64 0]) (fun y => MkR top t S s (packN h 15) y.2.2 ∧ Plc (clsz 4) (y.2.2.C 4) y.2.1 ∧ ((4 : Nat) ≠ 2 → ∀ o, y.2.1 ≤ o → o + 8 ≤ y.2.1 + clsz 4 → ldW y.2.2.m o = 0) ∧ (∃ d : Int, 0 ≤ d ∧ d ≤ 304 ∧ y.2.2.Q = ⟨0, -1, lim, u + d + dz⟩ :: r1) ∧ y.2.2.nx = S.nx ∧ y.2.2.Fr = S.Fr) (fun y => [pts kb 74 [.pointer (some ⟨ib, 0, none⟩)], pts ib 128 [.pointer (some ⟨crb, 0, none⟩), .pointer (some ⟨thb, 0, none⟩), .pointer (some ⟨irb, 0, none⟩), .map (some hm), .map (some gm), .map (some lm)], isT thb T, mapF encU hm hf hn, (EX fun _ : Unit => pure' True (sepL [pts crb 133 [.pointer (some ⟨hob, 0, none⟩)], pts hob 131 [.pointer (some ⟨sb, 0, none⟩)], pts sb 117 [.pointer (some ⟨cb, 0, none⟩), .pointer (some ⟨fb, 0, none⟩)], pts cb 87 [.pointer (some ⟨pb, 0, none⟩), .pointer (some ⟨hb, 0, none⟩), .pointer (some ⟨qb, 0, none⟩)], isPl pb top y.2.2, slc 174 5 (some ⟨hb, 0, none⟩) 256 256 (Hd.tabC (Hd.putR l (ob 4 y.2.1 (w : Int))).1), Fo.isF fb (Fo.addN L last 0 (1, (s : Int))).1 (Fo.addN L last 0 (1, (s : Int))).2.1, mapF encU gm (updF gf (h : Int) (.pointer (some ⟨y.1, 0, none⟩))) (gn + 1), pts y.1 152 [.int .i64 (-1), .int .u64 0]]))]) := by
 refine fI Tryz.func107 Tryz.ntmps107 ?_
 intro F hF
 refine zz [94] ?_
 haveI : GVI F := ⟨hF⟩
 refine TC.open 10 rfl (fun x0 hx0 => ?_)
 obtain ⟨⟩ := x0
 clear hx0
 refine zz [135,0,1,5] ?_
 refine bx (v := .agg (List.toArray [.int .i64 (1 : Int), .int .i64 (ts : Int), .int .i64 (s : Int), .int .i64 (4 : Int), .int .i64 0, .bool false, .int .u64 (0 : Int), .slice wa 0 wc, .slice none 0 0, .int .u32 2, .int .u32 1, .int .u32 th, .int .i64 15])) (l := [.int .i64 (1 : Int), .int .i64 (ts : Int), .int .i64 (s : Int), .int .i64 (4 : Int), .int .i64 0, .bool false, .int .u64 (0 : Int), .slice wa 0 wc, .slice none 0 0, .int .u32 2, .int .u32 1, .int .u32 th, .int .i64 15]) rfl rfl ?_
 intro bd9
 refine zz [4,4,2,0,0,1,14,14,12,2,17,0,1,30,9,2,40,0,1,6] ?_
 refine q rfl rfl (ldN 13 (vs := [.int .i64 (1 : Int), .int .i64 (ts : Int), .int .i64 (s : Int), .int .i64 (4 : Int), .int .i64 0, .bool false, .int .u64 (0 : Int), .slice wa 0 wc, .slice none 0 0, .int .u32 2, .int .u32 1, .int .u32 th, .int .i64 15]) rfl rfl (by kernel_rfl) rfl) ?_
 refine e rfl ?_
 refine cl (kmk_gate kb ib crb hob thb irb hm gm lm sb fb cb pb hb qb top t S l ho hg1 hP hT s hs lim u r0 hA hQ hq n hU hR L last hla hs8 th hth f9 g9 hg hf9 w hw hw9 dz r1 hch hr h hh hput hget hok2 gf gn hgf ts wa wc) rfl PkL.p GVI.gv ?_
 intro y hy
 refine zz [200,15,15,4,4,2,56] ?_
 exact Ret.i y [_, _] ⟨rfl, rfl, trivial⟩ rfl hy (ent_take 0 rfl (ent_take 0 rfl (ent_take 10 rfl (ent_take 10 rfl (ent_close () trivial entS)))))
theorem kdo_irq (kb : Nat) (ib crb hob thb irb hm gm lm : Nat) (sb fb cb pb hb qb top t : Nat) (S : PS) (l : List Hd.Pl) (ho : Hd.OkT l) (hg1 : Hd.getR l 1 = (ob 2 t 0, 0)) (hP : PInv top S) (hT : TI top S t) (s : Nat) (hs : s < 256) (lim u : Int) (r0 : List Qt.Qn) (hA : enA S.m t s = 0) (hQ : S.Q = ⟨0, -1, lim, u⟩ :: r0) (hq : QR lim u r0) (n : Nat) (hU : ∀ c ∈ cls, usd S.C c ≤ n) (hR : RmB top S.Fr (n + 1)) (L : List Fo.Fn) (last : Int) (hla : last ≤ 1000000) (hs8 : s < 128) (th : Int) (hth : 0 ≤ th ∧ th ≤ 4294967295) (f9 : Nat) (g9 : Int) (hg : Hd.getR l th = (ob 1 f9 g9, 0)) (hf9 : Plc 64 (S.C 1) f9) (w : Nat) (hw : ldW S.m f9 = w) (hw9 : w ≤ 40) (dz : Int) (r1 : List Qt.Qn) (hch : ChQ lim u r0 w (clsz 5 : Int) dz r1 0) (hr : (Hd.allL l 0).length ≠ 0) (h : Nat) (hh : h < 4294967295) (hput : ∀ o, (Hd.putR l o).2 = ((h : Int), 0)) (hget : ∀ o, Hd.getR (Hd.putR l o).1 (h : Int) = (o, 0)) (hok2 : ∀ o, Hd.OkT (Hd.putR l o).1) (qf lf : Int → Option Value) (qn ln : Nat) (hqf : qf (h : Int) = none) (hlf : lf (h : Int) = none) (ts : Nat) (wa : Option Addr) (wc : Nat) (T : TS) (hf : Int → Option Value) (hn : Nat) : FSpec Tryz.prog 107 [.pointer (some ⟨kb, 0, none⟩), .agg #[.int .i64 (1 : Int), .int .i64 (ts : Int), .int .i64 (s : Int), .int .i64 (5 : Int), .int .i64 0, .bool false, .int .u64 (0 : Int), .slice wa 0 wc, .slice none 0 0, .int .u32 2, .int .u32 1, .int .u32 th, .int .i64 15]] GV [pts kb 74 [.pointer (some ⟨ib, 0, none⟩)], pts ib 128 [.pointer (some ⟨crb, 0, none⟩), .pointer (some ⟨thb, 0, none⟩), .pointer (some ⟨irb, 0, none⟩), .map (some hm), .map (some gm), .map (some lm)], pts crb 133 [.pointer (some ⟨hob, 0, none⟩)], pts hob 131 [.pointer (some ⟨sb, 0, none⟩)], pts sb 117 [.pointer (some ⟨cb, 0, none⟩), .pointer (some ⟨fb, 0, none⟩)], pts cb 87 [.pointer (some ⟨pb, 0, none⟩), .pointer (some ⟨hb, 0, none⟩), .pointer (some ⟨qb, 0, none⟩)], isPl pb top S, slc 174 5 (some ⟨hb, 0, none⟩) 256 256 (Hd.tabC l), isT thb T, mapF encU hm hf hn, (EX fun _ : Unit => pure' True (sepL [Fo.isF fb L last, isIq irb qf qn, mapF QM.encI lm lf ln]))] (fun _ : Nat × Nat × PS => .tuple #[.int .u64 (h : Int), .int .i64 0]) (fun y => MkR top t S s (packN h 15) y.2.2 ∧ Plc (clsz 5) (y.2.2.C 5) y.2.1 ∧ ((5 : Nat) ≠ 2 → ∀ o, y.2.1 ≤ o → o + 8 ≤ y.2.1 + clsz 5 → ldW y.2.2.m o = 0) ∧ (∃ d : Int, 0 ≤ d ∧ d ≤ 304 ∧ y.2.2.Q = ⟨0, -1, lim, u + d + dz⟩ :: r1) ∧ y.2.2.nx = S.nx ∧ y.2.2.Fr = S.Fr) (fun y => [pts kb 74 [.pointer (some ⟨ib, 0, none⟩)], pts ib 128 [.pointer (some ⟨crb, 0, none⟩), .pointer (some ⟨thb, 0, none⟩), .pointer (some ⟨irb, 0, none⟩), .map (some hm), .map (some gm), .map (some lm)], isT thb T, mapF encU hm hf hn, (EX fun _ : Unit => pure' True (sepL [pts crb 133 [.pointer (some ⟨hob, 0, none⟩)], pts hob 131 [.pointer (some ⟨sb, 0, none⟩)], pts sb 117 [.pointer (some ⟨cb, 0, none⟩), .pointer (some ⟨fb, 0, none⟩)], pts cb 87 [.pointer (some ⟨pb, 0, none⟩), .pointer (some ⟨hb, 0, none⟩), .pointer (some ⟨qb, 0, none⟩)], isPl pb top y.2.2, slc 174 5 (some ⟨hb, 0, none⟩) 256 256 (Hd.tabC (Hd.putR l (ob 5 y.2.1 (w : Int))).1), Fo.isF fb (Fo.addN L last 0 (1, (s : Int))).1 (Fo.addN L last 0 (1, (s : Int))).2.1, isIq irb (updF qf (h : Int) (.pointer (some ⟨y.1, 0, none⟩))) (qn + 1), mapF QM.encI lm (updF lf (h : Int) (.int .u64 0)) (ln + 1)]))]) := by
 refine fI Tryz.func107 Tryz.ntmps107 ?_
 intro F hF
 refine zz [94] ?_
 haveI : GVI F := ⟨hF⟩
 refine TC.open 10 rfl (fun x0 hx0 => ?_)
 obtain ⟨⟩ := x0
 clear hx0
 refine zz [277,0,1,5] ?_
 refine bx (v := .agg (List.toArray [.int .i64 (1 : Int), .int .i64 (ts : Int), .int .i64 (s : Int), .int .i64 (5 : Int), .int .i64 0, .bool false, .int .u64 (0 : Int), .slice wa 0 wc, .slice none 0 0, .int .u32 2, .int .u32 1, .int .u32 th, .int .i64 15])) (l := [.int .i64 (1 : Int), .int .i64 (ts : Int), .int .i64 (s : Int), .int .i64 (5 : Int), .int .i64 0, .bool false, .int .u64 (0 : Int), .slice wa 0 wc, .slice none 0 0, .int .u32 2, .int .u32 1, .int .u32 th, .int .i64 15]) rfl rfl ?_
 intro bd9
 refine zz [4,4,2,0,0,1,14,14,12,2,17,0,1,30,9,2,40,0,1,6] ?_
 refine q rfl rfl (ldN 13 (vs := [.int .i64 (1 : Int), .int .i64 (ts : Int), .int .i64 (s : Int), .int .i64 (5 : Int), .int .i64 0, .bool false, .int .u64 (0 : Int), .slice wa 0 wc, .slice none 0 0, .int .u32 2, .int .u32 1, .int .u32 th, .int .i64 15]) rfl rfl (by kernel_rfl) rfl) ?_
 refine e rfl ?_
 refine cl (kmk_irq kb ib crb hob thb irb hm gm lm sb fb cb pb hb qb top t S l ho hg1 hP hT s hs lim u r0 hA hQ hq n hU hR L last hla hs8 th hth f9 g9 hg hf9 w hw hw9 dz r1 hch hr h hh hput hget hok2 qf lf qn ln hqf hlf ts wa wc) rfl PkL.p GVI.gv ?_
 intro y hy
 refine zz [200,15,15,4,4,2,56] ?_
 exact Ret.i y [_, _] ⟨rfl, rfl, trivial⟩ rfl hy (ent_take 0 rfl (ent_take 0 rfl (ent_take 10 rfl (ent_take 10 rfl (ent_close () trivial entS)))))
theorem kdo_fac (kb : Nat) (ib crb hob thb irb hm gm lm : Nat) (sb fb cb pb hb qb top t : Nat) (S : PS) (l : List Hd.Pl) (ho : Hd.OkT l) (hg1 : Hd.getR l 1 = (ob 2 t 0, 0)) (hP : PInv top S) (hT : TI top S t) (s : Nat) (hs : s < 256) (lim u : Int) (r0 : List Qt.Qn) (hA : enA S.m t s = 0) (hQ : S.Q = ⟨0, -1, lim, u⟩ :: r0) (hq : QR lim u r0) (n : Nat) (hU : ∀ c ∈ cls, usd S.C c ≤ n) (hR : RmB top S.Fr (n + 1)) (L : List Fo.Fn) (last : Int) (hla : last ≤ 1000000) (hs8 : s < 128) (th : Int) (hth : 0 ≤ th ∧ th ≤ 4294967295) (f9 : Nat) (g9 : Int) (hg : Hd.getR l th = (ob 1 f9 g9, 0)) (hf9 : Plc 64 (S.C 1) f9) (w : Nat) (hw : ldW S.m f9 = w) (hw9 : w ≤ 40) (x9 : Nat) (hx9 : x9 ≤ 1073741824) (dz : Int) (r1 : List Qt.Qn) (hch : ChQ lim u r0 w 64 dz r1 0) (hr : (Hd.allL l 0).length ≠ 0) (h : Nat) (hh : h < 4294967295) (hput : ∀ o, (Hd.putR l o).2 = ((h : Int), 0)) (hnx : S.nx ≤ 1000000) (idn : Nat) (hid : idn ≤ 1000000) (r2 : List Qt.Qn) (hcv : ∀ v, u ≤ v → v ≤ u + 304 → Qt.carveQ (⟨0, -1, lim, v + dz⟩ :: r1) S.nx (w : Int) (x9 : Int) = (⟨0, -1, lim, v + dz⟩ :: r2, S.nx + 1, (idn : Int), 0)) (hget : ∀ o, Hd.getR (Hd.putR l o).1 (h : Int) = (o, 0)) (hok2 : ∀ o, Hd.OkT (Hd.putR l o).1) (ts : Nat) (wa : Option Addr) (wc : Nat) (T : TS) (hf : Int → Option Value) (hn : Nat) : FSpec Tryz.prog 107 [.pointer (some ⟨kb, 0, none⟩), .agg #[.int .i64 (1 : Int), .int .i64 (ts : Int), .int .i64 (s : Int), .int .i64 (1 : Int), .int .i64 0, .bool false, .int .u64 (x9 : Int), .slice wa 0 wc, .slice none 0 0, .int .u32 2, .int .u32 1, .int .u32 th, .int .i64 15]] GV [pts kb 74 [.pointer (some ⟨ib, 0, none⟩)], pts ib 128 [.pointer (some ⟨crb, 0, none⟩), .pointer (some ⟨thb, 0, none⟩), .pointer (some ⟨irb, 0, none⟩), .map (some hm), .map (some gm), .map (some lm)], pts crb 133 [.pointer (some ⟨hob, 0, none⟩)], pts hob 131 [.pointer (some ⟨sb, 0, none⟩)], pts sb 117 [.pointer (some ⟨cb, 0, none⟩), .pointer (some ⟨fb, 0, none⟩)], pts cb 87 [.pointer (some ⟨pb, 0, none⟩), .pointer (some ⟨hb, 0, none⟩), .pointer (some ⟨qb, 0, none⟩)], isPl pb top S, slc 174 5 (some ⟨hb, 0, none⟩) 256 256 (Hd.tabC l), isT thb T, mapF encU hm hf hn, (EX fun _ : Unit => pure' True (sepL [Fo.isF fb L last]))] (fun _ : Nat × PS => .tuple #[.int .u64 (h : Int), .int .i64 0]) (fun y => MkR top t S s (packN h 15) y.2 ∧ Plc (clsz 1) (y.2.C 1) y.1 ∧ ldW y.2.m y.1 = idn ∧ (∃ d : Int, 0 ≤ d ∧ d ≤ 304 ∧ y.2.Q = ⟨0, -1, lim, u + d + dz⟩ :: r2) ∧ y.2.nx = S.nx + 1 ∧ y.2.Fr = S.Fr) (fun y => [pts kb 74 [.pointer (some ⟨ib, 0, none⟩)], pts ib 128 [.pointer (some ⟨crb, 0, none⟩), .pointer (some ⟨thb, 0, none⟩), .pointer (some ⟨irb, 0, none⟩), .map (some hm), .map (some gm), .map (some lm)], isT thb T, mapF encU hm hf hn, (EX fun _ : Unit => pure' True (sepL [pts crb 133 [.pointer (some ⟨hob, 0, none⟩)], pts hob 131 [.pointer (some ⟨sb, 0, none⟩)], pts sb 117 [.pointer (some ⟨cb, 0, none⟩), .pointer (some ⟨fb, 0, none⟩)], pts cb 87 [.pointer (some ⟨pb, 0, none⟩), .pointer (some ⟨hb, 0, none⟩), .pointer (some ⟨qb, 0, none⟩)], isPl pb top y.2, slc 174 5 (some ⟨hb, 0, none⟩) 256 256 (Hd.tabC (Hd.putR l (ob 1 y.1 (w : Int))).1), Fo.isF fb (Fo.addN L last 0 (1, (s : Int))).1 (Fo.addN L last 0 (1, (s : Int))).2.1]))]) := by
 refine fI Tryz.func107 Tryz.ntmps107 ?_
 intro F hF
 refine zz [94] ?_
 haveI : GVI F := ⟨hF⟩
 refine TC.open 10 rfl (fun x0 hx0 => ?_)
 obtain ⟨⟩ := x0
 clear hx0
 refine zz [94,0,1,5] ?_
 refine bx (v := .agg (List.toArray [.int .i64 (1 : Int), .int .i64 (ts : Int), .int .i64 (s : Int), .int .i64 (1 : Int), .int .i64 0, .bool false, .int .u64 (x9 : Int), .slice wa 0 wc, .slice none 0 0, .int .u32 2, .int .u32 1, .int .u32 th, .int .i64 15])) (l := [.int .i64 (1 : Int), .int .i64 (ts : Int), .int .i64 (s : Int), .int .i64 (1 : Int), .int .i64 0, .bool false, .int .u64 (x9 : Int), .slice wa 0 wc, .slice none 0 0, .int .u32 2, .int .u32 1, .int .u32 th, .int .i64 15]) rfl rfl ?_
 intro bd9
 refine zz [4,4,2,0,0,1,14,14,12,2,17,0,1,30,9,2,40,0,1,6] ?_
 refine q rfl rfl (ldN 13 (vs := [.int .i64 (1 : Int), .int .i64 (ts : Int), .int .i64 (s : Int), .int .i64 (1 : Int), .int .i64 0, .bool false, .int .u64 (x9 : Int), .slice wa 0 wc, .slice none 0 0, .int .u32 2, .int .u32 1, .int .u32 th, .int .i64 15]) rfl rfl (by kernel_rfl) rfl) ?_
 refine e rfl ?_
 refine cl (kmk_fac kb ib crb hob thb irb hm gm lm sb fb cb pb hb qb top t S l ho hg1 hP hT s hs lim u r0 hA hQ hq n hU hR L last hla hs8 th hth f9 g9 hg hf9 w hw hw9 x9 hx9 dz r1 hch hr h hh hput hnx idn hid r2 hcv hget hok2 ts wa wc) rfl PkL.p GVI.gv ?_
 intro y hy
 refine zz [120,15,15,4,4,2,56] ?_
 exact Ret.i y [_, _] ⟨rfl, rfl, trivial⟩ rfl hy (ent_take 0 rfl (ent_take 0 rfl (ent_take 8 rfl (ent_take 8 rfl (ent_close () trivial entS)))))
theorem kdo_fr (kb : Nat) (ib crb hob thb irb hm gm lm : Nat) (sb fb cb pb hb qb top t : Nat) (S : PS) (l : List Hd.Pl) (ho : Hd.OkT l) (hg1 : Hd.getR l 1 = (ob 2 t 0, 0)) (hP : PInv top S) (hT : TI top S t) (s : Nat) (hs : s < 256) (lim u : Int) (r0 : List Qt.Qn) (hA : enA S.m t s = 0) (hQ : S.Q = ⟨0, -1, lim, u⟩ :: r0) (hq : QR lim u r0) (n : Nat) (hU : ∀ c ∈ cls, usd S.C c ≤ n) (hR : RmB top S.Fr (n + 1)) (L : List Fo.Fn) (last : Int) (hla : last ≤ 1000000) (hs8 : 128 ≤ s) (th : Int) (hth : 0 ≤ th ∧ th ≤ 4294967295) (f9 : Nat) (g9 : Int) (hg : Hd.getR l th = (ob 1 f9 g9, 0)) (hf9 : Plc 64 (S.C 1) f9) (w : Nat) (hw : ldW S.m f9 = w) (hw9 : w ≤ 40) (dz : Int) (r1 : List Qt.Qn) (hch : ChQ lim u r0 w 1024 dz r1 0) (hr : (Hd.allL l 0).length ≠ 0) (h : Nat) (hh : h < 4294967295) (hput : ∀ o, (Hd.putR l o).2 = ((h : Int), 0)) (hget : ∀ o, Hd.getR (Hd.putR l o).1 (h : Int) = (o, 0)) (hok2 : ∀ o, Hd.OkT (Hd.putR l o).1) (ts : Nat) (wa : Option Addr) (wc : Nat) (T : TS) (hf : Int → Option Value) (hn : Nat) : FSpec Tryz.prog 107 [.pointer (some ⟨kb, 0, none⟩), .agg #[.int .i64 (1 : Int), .int .i64 (ts : Int), .int .i64 (s : Int), .int .i64 (8 : Int), .int .i64 0, .bool false, .int .u64 (0 : Int), .slice wa 0 wc, .slice none 0 0, .int .u32 2, .int .u32 1, .int .u32 th, .int .i64 15]] GV [pts kb 74 [.pointer (some ⟨ib, 0, none⟩)], pts ib 128 [.pointer (some ⟨crb, 0, none⟩), .pointer (some ⟨thb, 0, none⟩), .pointer (some ⟨irb, 0, none⟩), .map (some hm), .map (some gm), .map (some lm)], pts crb 133 [.pointer (some ⟨hob, 0, none⟩)], pts hob 131 [.pointer (some ⟨sb, 0, none⟩)], pts sb 117 [.pointer (some ⟨cb, 0, none⟩), .pointer (some ⟨fb, 0, none⟩)], pts cb 87 [.pointer (some ⟨pb, 0, none⟩), .pointer (some ⟨hb, 0, none⟩), .pointer (some ⟨qb, 0, none⟩)], isPl pb top S, slc 174 5 (some ⟨hb, 0, none⟩) 256 256 (Hd.tabC l), isT thb T, mapF encU hm hf hn, (EX fun _ : Unit => pure' True (sepL [Fo.isF fb L last]))] (fun _ : Nat × PS => .tuple #[.int .u64 (h : Int), .int .i64 0]) (fun y => MkR top t S s (packN h 15) y.2 ∧ y.2.Fr = y.1 :: S.Fr ∧ (∃ d : Int, 0 ≤ d ∧ d ≤ 304 ∧ y.2.Q = ⟨0, -1, lim, u + d + dz⟩ :: r1) ∧ y.2.nx = S.nx) (fun y => [pts kb 74 [.pointer (some ⟨ib, 0, none⟩)], pts ib 128 [.pointer (some ⟨crb, 0, none⟩), .pointer (some ⟨thb, 0, none⟩), .pointer (some ⟨irb, 0, none⟩), .map (some hm), .map (some gm), .map (some lm)], isT thb T, mapF encU hm hf hn, (EX fun _ : Unit => pure' True (sepL [pts crb 133 [.pointer (some ⟨hob, 0, none⟩)], pts hob 131 [.pointer (some ⟨sb, 0, none⟩)], pts sb 117 [.pointer (some ⟨cb, 0, none⟩), .pointer (some ⟨fb, 0, none⟩)], pts cb 87 [.pointer (some ⟨pb, 0, none⟩), .pointer (some ⟨hb, 0, none⟩), .pointer (some ⟨qb, 0, none⟩)], isPl pb top y.2, slc 174 5 (some ⟨hb, 0, none⟩) 256 256 (Hd.tabC (Hd.putR l (ob 8 (y.1 * 1024) (w : Int))).1), Fo.isF fb (Fo.addN L last 0 (1, (s : Int))).1 (Fo.addN L last 0 (1, (s : Int))).2.1]))]) := by
 refine fI Tryz.func107 Tryz.ntmps107 ?_
 intro F hF
 refine zz [94] ?_
 haveI : GVI F := ⟨hF⟩
 refine TC.open 10 rfl (fun x0 hx0 => ?_)
 obtain ⟨⟩ := x0
 clear hx0
 refine zz [94,0,1,5] ?_
 refine bx (v := .agg (List.toArray [.int .i64 (1 : Int), .int .i64 (ts : Int), .int .i64 (s : Int), .int .i64 (8 : Int), .int .i64 0, .bool false, .int .u64 (0 : Int), .slice wa 0 wc, .slice none 0 0, .int .u32 2, .int .u32 1, .int .u32 th, .int .i64 15])) (l := [.int .i64 (1 : Int), .int .i64 (ts : Int), .int .i64 (s : Int), .int .i64 (8 : Int), .int .i64 0, .bool false, .int .u64 (0 : Int), .slice wa 0 wc, .slice none 0 0, .int .u32 2, .int .u32 1, .int .u32 th, .int .i64 15]) rfl rfl ?_
 intro bd9
 refine zz [4,4,2,0,0,1,14,14,12,2,17,0,1,30,9,2,40,0,1,6] ?_
 refine q rfl rfl (ldN 13 (vs := [.int .i64 (1 : Int), .int .i64 (ts : Int), .int .i64 (s : Int), .int .i64 (8 : Int), .int .i64 0, .bool false, .int .u64 (0 : Int), .slice wa 0 wc, .slice none 0 0, .int .u32 2, .int .u32 1, .int .u32 th, .int .i64 15]) rfl rfl (by kernel_rfl) rfl) ?_
 refine e rfl ?_
 refine cl (kmk_fr kb ib crb hob thb irb hm gm lm sb fb cb pb hb qb top t S l ho hg1 hP hT s hs lim u r0 hA hQ hq n hU hR L last hla hs8 th hth f9 g9 hg hf9 w hw hw9 dz r1 hch hr h hh hput hget hok2 ts wa wc) rfl PkL.p GVI.gv ?_
 intro y hy
 refine zz [120,15,15,4,4,2,56] ?_
 exact Ret.i y [_, _] ⟨rfl, rfl, trivial⟩ rfl hy (ent_take 0 rfl (ent_take 0 rfl (ent_take 8 rfl (ent_take 8 rfl (ent_close () trivial entS)))))
theorem kdo_no (kb : Nat) (ib crb hob thb irb hm gm lm : Nat) (sb fb cb pb hb qb top t : Nat) (S : PS) (l : List Hd.Pl) (ho : Hd.OkT l) (hg1 : Hd.getR l 1 = (ob 2 t 0, 0)) (hP : PInv top S) (hT : TI top S t) (s : Nat) (hs : s < 256) (lim u : Int) (r0 : List Qt.Qn) (hA : enA S.m t s = 0) (hQ : S.Q = ⟨0, -1, lim, u⟩ :: r0) (hq : QR lim u r0) (n : Nat) (hU : ∀ c ∈ cls, usd S.C c ≤ n) (hR : RmB top S.Fr (n + 1)) (L : List Fo.Fn) (last : Int) (hla : last ≤ 1000000) (hs8 : s < 128) (th : Int) (hth : 0 ≤ th ∧ th ≤ 4294967295) (f9 : Nat) (g9 : Int) (hg : Hd.getR l th = (ob 1 f9 g9, 0)) (hf9 : Plc 64 (S.C 1) f9) (w : Nat) (hw : ldW S.m f9 = w) (hw9 : w ≤ 40) (c : Nat) (hc2 : 2 ≤ c ∧ c ≤ 5) (er : Int) (dz : Int) (r1 : List Qt.Qn) (hch : ChQ lim u r0 w (clsz c : Int) dz r1 er) (her : er ≠ 0) (hc3 : c ≠ 3) (ts : Nat) (wa : Option Addr) (wc : Nat) (T : TS) (hf : Int → Option Value) (hn : Nat) : FSpec Tryz.prog 107 [.pointer (some ⟨kb, 0, none⟩), .agg #[.int .i64 (1 : Int), .int .i64 (ts : Int), .int .i64 (s : Int), .int .i64 (c : Int), .int .i64 0, .bool false, .int .u64 (0 : Int), .slice wa 0 wc, .slice none 0 0, .int .u32 2, .int .u32 1, .int .u32 th, .int .i64 15]] GV [pts kb 74 [.pointer (some ⟨ib, 0, none⟩)], pts ib 128 [.pointer (some ⟨crb, 0, none⟩), .pointer (some ⟨thb, 0, none⟩), .pointer (some ⟨irb, 0, none⟩), .map (some hm), .map (some gm), .map (some lm)], pts crb 133 [.pointer (some ⟨hob, 0, none⟩)], pts hob 131 [.pointer (some ⟨sb, 0, none⟩)], pts sb 117 [.pointer (some ⟨cb, 0, none⟩), .pointer (some ⟨fb, 0, none⟩)], pts cb 87 [.pointer (some ⟨pb, 0, none⟩), .pointer (some ⟨hb, 0, none⟩), .pointer (some ⟨qb, 0, none⟩)], isPl pb top S, slc 174 5 (some ⟨hb, 0, none⟩) 256 256 (Hd.tabC l), isT thb T, mapF encU hm hf hn, (EX fun _ : Unit => pure' True (sepL [Fo.isF fb L last]))] (fun _ : PS => .tuple #[.int .u64 ((0 : Nat) : Int), .int .i64 er]) (fun y => BackR top t S y) (fun y => [pts kb 74 [.pointer (some ⟨ib, 0, none⟩)], pts ib 128 [.pointer (some ⟨crb, 0, none⟩), .pointer (some ⟨thb, 0, none⟩), .pointer (some ⟨irb, 0, none⟩), .map (some hm), .map (some gm), .map (some lm)], isT thb T, mapF encU hm hf hn, (EX fun _ : Unit => pure' True (sepL [pts crb 133 [.pointer (some ⟨hob, 0, none⟩)], pts hob 131 [.pointer (some ⟨sb, 0, none⟩)], pts sb 117 [.pointer (some ⟨cb, 0, none⟩), .pointer (some ⟨fb, 0, none⟩)], pts cb 87 [.pointer (some ⟨pb, 0, none⟩), .pointer (some ⟨hb, 0, none⟩), .pointer (some ⟨qb, 0, none⟩)], isPl pb top y, slc 174 5 (some ⟨hb, 0, none⟩) 256 256 (Hd.tabC l), Fo.isF fb L last]))]) := by
 refine fI Tryz.func107 Tryz.ntmps107 ?_
 intro F hF
 refine zz [94] ?_
 haveI : GVI F := ⟨hF⟩
 refine TC.open 10 rfl (fun x0 hx0 => ?_)
 obtain ⟨⟩ := x0
 clear hx0
 refine zz [94,0,1,5] ?_
 refine bx (v := .agg (List.toArray [.int .i64 (1 : Int), .int .i64 (ts : Int), .int .i64 (s : Int), .int .i64 (c : Int), .int .i64 0, .bool false, .int .u64 (0 : Int), .slice wa 0 wc, .slice none 0 0, .int .u32 2, .int .u32 1, .int .u32 th, .int .i64 15])) (l := [.int .i64 (1 : Int), .int .i64 (ts : Int), .int .i64 (s : Int), .int .i64 (c : Int), .int .i64 0, .bool false, .int .u64 (0 : Int), .slice wa 0 wc, .slice none 0 0, .int .u32 2, .int .u32 1, .int .u32 th, .int .i64 15]) rfl rfl ?_
 intro bd9
 refine zz [4,4,2,0,0,1,14,14,12,2,17,0,1,30,9,2,40,0,1,6] ?_
 refine q rfl rfl (ldN 13 (vs := [.int .i64 (1 : Int), .int .i64 (ts : Int), .int .i64 (s : Int), .int .i64 (c : Int), .int .i64 0, .bool false, .int .u64 (0 : Int), .slice wa 0 wc, .slice none 0 0, .int .u32 2, .int .u32 1, .int .u32 th, .int .i64 15]) rfl rfl (by kernel_rfl) rfl) ?_
 refine e rfl ?_
 refine cl (kmk_no kb ib crb hob thb irb hm gm lm sb fb cb pb hb qb top t S l ho hg1 hP hT s hs lim u r0 hA hQ hq n hU hR L last hla hs8 th hth f9 g9 hg hf9 w hw hw9 c hc2 er dz r1 hch her hc3 ts wa wc) rfl PkL.p GVI.gv ?_
 intro y hy
 refine zz [120,15,15,4,4,2,56] ?_
 exact Ret.i y [_, _] ⟨rfl, rfl, trivial⟩ rfl hy (ent_take 0 rfl (ent_take 0 rfl (ent_take 8 rfl (ent_take 8 rfl (ent_close () trivial entS)))))
theorem kdo_nofr (kb : Nat) (ib crb hob thb irb hm gm lm : Nat) (sb fb cb pb hb qb top t : Nat) (S : PS) (l : List Hd.Pl) (ho : Hd.OkT l) (hg1 : Hd.getR l 1 = (ob 2 t 0, 0)) (hP : PInv top S) (hT : TI top S t) (s : Nat) (hs : s < 256) (lim u : Int) (r0 : List Qt.Qn) (hA : enA S.m t s = 0) (hQ : S.Q = ⟨0, -1, lim, u⟩ :: r0) (hq : QR lim u r0) (n : Nat) (hU : ∀ c ∈ cls, usd S.C c ≤ n) (hR : RmB top S.Fr (n + 1)) (L : List Fo.Fn) (last : Int) (hla : last ≤ 1000000) (hs8 : 128 ≤ s) (th : Int) (hth : 0 ≤ th ∧ th ≤ 4294967295) (f9 : Nat) (g9 : Int) (hg : Hd.getR l th = (ob 1 f9 g9, 0)) (hf9 : Plc 64 (S.C 1) f9) (w : Nat) (hw : ldW S.m f9 = w) (hw9 : w ≤ 40) (er : Int) (dz : Int) (r1 : List Qt.Qn) (hch : ChQ lim u r0 w 1024 dz r1 er) (her : er ≠ 0) (ts : Nat) (wa : Option Addr) (wc : Nat) (T : TS) (hf : Int → Option Value) (hn : Nat) : FSpec Tryz.prog 107 [.pointer (some ⟨kb, 0, none⟩), .agg #[.int .i64 (1 : Int), .int .i64 (ts : Int), .int .i64 (s : Int), .int .i64 (8 : Int), .int .i64 0, .bool false, .int .u64 (0 : Int), .slice wa 0 wc, .slice none 0 0, .int .u32 2, .int .u32 1, .int .u32 th, .int .i64 15]] GV [pts kb 74 [.pointer (some ⟨ib, 0, none⟩)], pts ib 128 [.pointer (some ⟨crb, 0, none⟩), .pointer (some ⟨thb, 0, none⟩), .pointer (some ⟨irb, 0, none⟩), .map (some hm), .map (some gm), .map (some lm)], pts crb 133 [.pointer (some ⟨hob, 0, none⟩)], pts hob 131 [.pointer (some ⟨sb, 0, none⟩)], pts sb 117 [.pointer (some ⟨cb, 0, none⟩), .pointer (some ⟨fb, 0, none⟩)], pts cb 87 [.pointer (some ⟨pb, 0, none⟩), .pointer (some ⟨hb, 0, none⟩), .pointer (some ⟨qb, 0, none⟩)], isPl pb top S, slc 174 5 (some ⟨hb, 0, none⟩) 256 256 (Hd.tabC l), isT thb T, mapF encU hm hf hn, (EX fun _ : Unit => pure' True (sepL [Fo.isF fb L last]))] (fun _ : PS => .tuple #[.int .u64 ((0 : Nat) : Int), .int .i64 er]) (fun y => BackR top t S y) (fun y => [pts kb 74 [.pointer (some ⟨ib, 0, none⟩)], pts ib 128 [.pointer (some ⟨crb, 0, none⟩), .pointer (some ⟨thb, 0, none⟩), .pointer (some ⟨irb, 0, none⟩), .map (some hm), .map (some gm), .map (some lm)], isT thb T, mapF encU hm hf hn, (EX fun _ : Unit => pure' True (sepL [pts crb 133 [.pointer (some ⟨hob, 0, none⟩)], pts hob 131 [.pointer (some ⟨sb, 0, none⟩)], pts sb 117 [.pointer (some ⟨cb, 0, none⟩), .pointer (some ⟨fb, 0, none⟩)], pts cb 87 [.pointer (some ⟨pb, 0, none⟩), .pointer (some ⟨hb, 0, none⟩), .pointer (some ⟨qb, 0, none⟩)], isPl pb top y, slc 174 5 (some ⟨hb, 0, none⟩) 256 256 (Hd.tabC l), Fo.isF fb L last]))]) := by
 refine fI Tryz.func107 Tryz.ntmps107 ?_
 intro F hF
 refine zz [94] ?_
 haveI : GVI F := ⟨hF⟩
 refine TC.open 10 rfl (fun x0 hx0 => ?_)
 obtain ⟨⟩ := x0
 clear hx0
 refine zz [94,0,1,5] ?_
 refine bx (v := .agg (List.toArray [.int .i64 (1 : Int), .int .i64 (ts : Int), .int .i64 (s : Int), .int .i64 (8 : Int), .int .i64 0, .bool false, .int .u64 (0 : Int), .slice wa 0 wc, .slice none 0 0, .int .u32 2, .int .u32 1, .int .u32 th, .int .i64 15])) (l := [.int .i64 (1 : Int), .int .i64 (ts : Int), .int .i64 (s : Int), .int .i64 (8 : Int), .int .i64 0, .bool false, .int .u64 (0 : Int), .slice wa 0 wc, .slice none 0 0, .int .u32 2, .int .u32 1, .int .u32 th, .int .i64 15]) rfl rfl ?_
 intro bd9
 refine zz [4,4,2,0,0,1,14,14,12,2,17,0,1,30,9,2,40,0,1,6] ?_
 refine q rfl rfl (ldN 13 (vs := [.int .i64 (1 : Int), .int .i64 (ts : Int), .int .i64 (s : Int), .int .i64 (8 : Int), .int .i64 0, .bool false, .int .u64 (0 : Int), .slice wa 0 wc, .slice none 0 0, .int .u32 2, .int .u32 1, .int .u32 th, .int .i64 15]) rfl rfl (by kernel_rfl) rfl) ?_
 refine e rfl ?_
 refine cl (kmk_nofr kb ib crb hob thb irb hm gm lm sb fb cb pb hb qb top t S l ho hg1 hP hT s hs lim u r0 hA hQ hq n hU hR L last hla hs8 th hth f9 g9 hg hf9 w hw hw9 er dz r1 hch her ts wa wc) rfl PkL.p GVI.gv ?_
 intro y hy
 refine zz [120,15,15,4,4,2,56] ?_
 exact Ret.i y [_, _] ⟨rfl, rfl, trivial⟩ rfl hy (ent_take 0 rfl (ent_take 0 rfl (ent_take 8 rfl (ent_take 8 rfl (ent_close () trivial entS)))))
structure HL (l : List Hd.Pl) (k : Nat) : Prop where
  n : l.length = 256
  lv : ∀ i, i < k → ∃ o, l[i]? = some ⟨o, 1, 0⟩
  em : ∀ i, k ≤ i → i < 256 → ∃ o, l[i]? = some ⟨o, 0, 0⟩
theorem HL.ok {l : List Hd.Pl} {k : Nat} (h : HL l k) : Hd.OkT l := ⟨h.n, fun p hp => by
 obtain ⟨i, hi⟩ := List.getElem?_of_mem hp
 by_cases hk : i < k
 ·obtain ⟨o, ho⟩ := h.lv i hk
  rw [ho] at hi; cases hi; exact ⟨Int.le_refl _, (by decide : (0 : Int) ≤ 1048575)⟩
 ·have h256 : i < 256 := by have := (List.getElem?_eq_some_iff.1 hi).1; rw [h.n] at this; exact this
  obtain ⟨o, ho⟩ := h.em i (by omega) h256
  rw [ho] at hi; cases hi; exact ⟨Int.le_refl _, (by decide : (0 : Int) ≤ 1048575)⟩⟩
theorem getR_at {l : List Hd.Pl} {i : Nat} (hi : i < 256) {o : Hd.Ob} (ho : l[i]? = some ⟨o, 1, 0⟩) : Hd.getR l (i : Int) = (o, 0) := by
 have e : Hd.lookL l (i : Int) 1 = some (i, ⟨o, 1, 0⟩) := by
  rw [Hd.lookL, show ((i : Int) % 256).toNat = i by omega, ho]
  dsimp only
  rw [if_pos ⟨by omega, rfl⟩]
 rw [Hd.getR, e]
theorem getR_set {l : List Hd.Pl} {i k : Nat} (hi : i < 256) (hne : i ≠ k) (p : Hd.Pl) : Hd.getR (l.set k p) (i : Int) = Hd.getR l (i : Int) := by
 rw [Hd.getR, Hd.getR, Hd.lookL, Hd.lookL, show ((i : Int) % 256).toNat = i by omega, List.getElem?_set_ne (fun e => hne e.symm)]
theorem HL.room {l : List Hd.Pl} {k : Nat} (h : HL l k) (hk : k < 256) : (Hd.allL l 0).length ≠ 0 := by
 obtain ⟨o, ho⟩ := h.em k (Nat.le_refl _) hk
 rw [Hd.allL, Hd.allT, List.length_map]
 have h1 : ((⟨o, 0, 0⟩, k) : Hd.Pl × Nat) ∈ l.zipIdx := List.mem_zipIdx_iff_getElem?.2 ho
 have h2 := (List.mem_filter (p := fun t : Hd.Pl × Nat => decide (t.1.st = 0))).2 ⟨h1, decide_eq_true rfl⟩
 have := List.length_pos_of_mem h2
 omega
theorem HL.put {l : List Hd.Pl} {k : Nat} (h : HL l k) (hk : k < 256) (o : Hd.Ob) : Hd.putR l o = (l.set k ⟨o, 1, 0⟩, (k : Int), 0) ∧ HL (l.set k ⟨o, 1, 0⟩) (k + 1) ∧ Hd.getR (l.set k ⟨o, 1, 0⟩) (k : Int) = (o, 0) := by
 have hl : k < l.length := by rw [h.n]; exact hk
 obtain ⟨o0, ho0⟩ := h.em k (Nat.le_refl _) hk
 have hf : l.findIdx? Hd.isEmpty = some k := by
  rw [List.findIdx?_eq_some_iff_getElem]
  refine ⟨hl, ?_, fun j hj => ?_⟩
  ·obtain ⟨_, h2⟩ := List.getElem?_eq_some_iff.1 ho0
   rw [h2]; rfl
  ·obtain ⟨o1, ho1⟩ := h.lv j hj
   obtain ⟨_, h2⟩ := List.getElem?_eq_some_iff.1 ho1
   rw [h2]; exact fun h => by simp [Hd.isEmpty] at h
 refine ⟨?_, ⟨by rw [List.length_set]; exact h.n, fun i hi => ?_, fun i h1 h2 => ?_⟩, getR_at hk (List.getElem?_set_self hl)⟩
 ·rw [Hd.putR, hf]
  dsimp only
  rw [ho0]
  show (_, _, _) = _
  rw [show (0 : Int) * 256 + (k : Int) = (k : Int) by omega]
 ·by_cases e : i = k
  ·subst e; exact ⟨o, List.getElem?_set_self hl⟩
  ·rw [List.getElem?_set_ne (fun e2 => e e2.symm)]; exact h.lv i (by omega)
 ·rw [List.getElem?_set_ne (by omega)]; exact h.em i (by omega) h2
structure KA where
  n : Nat
  k : Nat
  us : List Nat
  r : List Qt.Qn
  nx : Int
  fr : Nat
  b : Int
  lim : Int
  fs : List (Nat × Nat × Nat)
structure KRec where
  ib : Nat
  crb : Nat
  hob : Nat
  sb : Nat
  thb : Nat
  irb : Nat
  hm : Nat
  gm : Nat
  lm : Nat
  fb : Nat
  cb : Nat
  pb : Nat
  hb : Nat
  qb : Nat
  t : Nat
  at9 : Nat
  S : PS
  l : List Hd.Pl
  L : List Fo.Fn
  last : Int
  gf : Int → Option Value
  gn : Nat
  qf : Int → Option Value
  qn : Nat
  lf : Int → Option Value
  ln : Nat
  u : Int
  pd : Int
structure KInv (top : Nat) (K : KA) (y : KRec) : Prop where
  P : PInv top y.S
  T : TI top y.S y.t
  hl : HL y.l K.k
  k2 : 2 ≤ K.k ∧ K.k ≤ K.n + 1
  th : 3 ≤ K.k → Plc 256 (y.S.C 3) y.at9 ∧ ∀ o, y.at9 ≤ o → o + 8 ≤ y.at9 + 256 → ldW y.S.m o = 0
  tk : Hd.getR y.l 1 = (ob 2 y.t 0, 0)
  U : ∀ c ∈ cls, usd y.S.C c ≤ K.n
  F : y.S.Fr.length ≤ K.fr
  Q : 0 ≤ y.u ∧ y.u ≤ K.b ∧ y.S.Q = ⟨0, -1, K.lim, y.u⟩ :: K.r
  nx : y.S.nx = K.nx
  us : ∀ s, s < 256 → s ∉ K.us → enA y.S.m y.t s = 0
  fs : ∀ x ∈ K.fs, x.1 < 256 ∧ x.2.1 < K.k ∧ enA y.S.m y.t x.1 = packN x.2.1 15 ∧ ∃ f g, Hd.getR y.l (x.2.1 : Int) = (ob 1 f g, 0) ∧ Plc 64 (y.S.C 1) f ∧ ldW y.S.m f = x.2.2
  la : y.last ≤ K.n
  mp : ∀ h : Int, (K.k : Int) ≤ h → y.gf h = none ∧ y.qf h = none ∧ y.lf h = none
theorem addN_last (L : List Fo.Fn) (last par : Int) (o : Int × Int) : (Fo.addN L last par o).2.1 ≤ last + 1 := by
 rw [Fo.addN]
 split
 ·show last ≤ last + 1; omega
 ·split
  ·show last ≤ last + 1; omega
  ·exact Int.le_refl _
theorem KInv.made {top : Nat} {K K' : KA} {y y' : KRec} (hI : KInv top K y) {s : Nat} (hs : s < 256) (hk : K.k < 256) {o : Hd.Ob} (hM : MkR top y.t y.S s (packN K.k 15) y'.S) (hA : enA y.S.m y.t s = 0)
 (ht : y'.t = y.t) (hl : y'.l = y.l.set K.k ⟨o, 1, 0⟩) (hla : y'.last ≤ y.last + 1) (hF : y'.S.Fr.length ≤ K'.fr) (hQ : 0 ≤ y'.u ∧ y'.u ≤ K'.b ∧ y'.S.Q = ⟨0, -1, K'.lim, y'.u⟩ :: K'.r) (hnx : y'.S.nx = K'.nx)
 (hth : 3 ≤ K'.k → (3 ≤ K.k ∧ y'.at9 = y.at9) ∨ (Plc 256 (y'.S.C 3) y'.at9 ∧ ∀ o, y'.at9 ≤ o → o + 8 ≤ y'.at9 + 256 → ldW y'.S.m o = 0)) (hn : K'.n = K.n + 1) (hkk : K'.k = K.k + 1) (hus : K'.us = s :: K.us)
 (hfs : ∀ x ∈ K'.fs, x ∈ K.fs ∨ (x.1 = s ∧ x.2.1 = K.k ∧ ∃ f, o = ob 1 f o.f ∧ Plc 64 (y'.S.C 1) f ∧ ldW y'.S.m f = x.2.2))
 (hmp : ∀ h : Int, (K.k : Int) + 1 ≤ h → y'.gf h = y.gf h ∧ y'.qf h = y.qf h ∧ y'.lf h = y.lf h) : KInv top K' y' := by
 obtain ⟨p1, p2, p3⟩ := hI.hl.put hk o
 have h2 := hI.k2
 refine ⟨hM.P, by rw [ht]; exact hM.T, by rw [hl, hkk]; exact p2, by omega, fun h3 => ?_, ?_, fun c hc => ?_, hF, hQ, hnx, fun x hx hxu => ?_, fun x hx => ?_, by rw [hn]; have := hI.la; omega, fun h hh => ?_⟩
 ·rcases hth h3 with ⟨h4, h5⟩ | h4
  ·obtain ⟨h6, h7⟩ := hI.th h4
   rw [h5]
   exact ⟨hM.G.plc 3 _ (by decide) h6, fun o h8 h9 => (hM.G.keep 3 _ (by decide) (by decide) (by decide) h6 o h8 h9).trans (h7 o h8 h9)⟩
  ·exact h4
 ·rw [hl, ht]
  have := getR_set (l := y.l) (i := 1) (k := K.k) (by decide) (by omega) ⟨o, 1, 0⟩
  rw [show ((1 : Nat) : Int) = 1 from rfl] at this
  rw [this]; exact hI.tk
 ·have := hM.U c; have := hI.U c hc; omega
 ·rw [hus] at hxu
  simp only [List.mem_cons, not_or] at hxu
  rw [ht, (hM.O x hx hxu.1).1]; exact hI.us x hx hxu.2
 ·rcases hfs x hx with h | ⟨h1, h3, f, h4, h5, h6⟩
  ·obtain ⟨g1, g2, g3, f, g, g4, g5, g6⟩ := hI.fs x h
   have hne : x.1 ≠ s := fun e => by
    rw [e, hA] at g3
    exact (packN_lt (h := x.2.1) (r := 15) (by omega) (by decide)).2 g3.symm
   have hb := Plc.bd hI.P (c := 1) (by decide) g5
   have e64 : clsz 1 = 64 := rfl
   refine ⟨g1, by omega, by rw [ht, (hM.O _ g1 hne).1]; exact g3, f, g, ?_, hM.G.plc 1 f (by decide) g5, ?_⟩
   ·rw [hl, getR_set (by omega) (by omega)]; exact g4
   ·rw [hM.G.keep 1 f (by decide) (by decide) (by decide) g5 f (Nat.le_refl _) (by omega)]; exact g6
  ·refine ⟨by omega, by omega, by rw [h1, ht, h3]; exact hM.A, f, o.f, ?_, h5, h6⟩
   rw [hl, h3, p3]; exact congrArg (fun z => (z, (0 : Int))) h4
 ·obtain ⟨m1, m2, m3⟩ := hmp h (by omega)
  obtain ⟨n1, n2, n3⟩ := hI.mp h (by omega)
  exact ⟨m1.trans n1, m2.trans n2, m3.trans n3⟩
theorem KInv.laid {top : Nat} {K K' : KA} {y y' : KRec} (hI : KInv top K y) {s h : Nat} (hs : s < 256) (hh : h < 4294967295) (hL : LayR top y.t K.lim y.u K.r y.S s (packN h 15) y'.S) (hA : enA y.S.m y.t s = 0)
 (ht : y'.t = y.t) (hl : y'.l = y.l) (hla : y'.last ≤ y.last + 1) (hfr : K'.fr = K.fr) (hQ : 0 ≤ y'.u ∧ y'.u ≤ K'.b ∧ y'.S.Q = ⟨0, -1, K'.lim, y'.u⟩ :: K'.r) (hnx : K'.nx = K.nx) (hat : y'.at9 = y.at9)
 (hn : K'.n = K.n + 1) (hkk : K'.k = K.k) (hus : K'.us = s :: K.us)
 (hfs : ∀ x ∈ K'.fs, x ∈ K.fs ∨ (x.1 = s ∧ x.2.1 = h ∧ h < K.k ∧ ∃ f g, Hd.getR y.l (h : Int) = (ob 1 f g, 0) ∧ Plc 64 (y.S.C 1) f ∧ ldW y.S.m f = x.2.2))
 (hmp : y'.gf = y.gf ∧ y'.qf = y.qf ∧ y'.lf = y.lf) : KInv top K' y' := by
 have h2 := hI.k2
 have hfac : ∀ f, Plc 64 (y.S.C 1) f → Plc 64 (y'.S.C 1) f ∧ ldW y'.S.m f = ldW y.S.m f := fun f hf => by
  have hb := Plc.bd hI.P (c := 1) (by decide) hf
  exact ⟨hL.G.plc 1 f (by decide) hf, hL.G.keep 1 f (by decide) (by decide) (by decide) hf f (Nat.le_refl _) (by have e64 : clsz 1 = 64 := rfl; omega)⟩
 refine ⟨hL.P, by rw [ht]; exact hL.T, by rw [hl, hkk]; exact hI.hl, by omega, fun h3 => ?_, by rw [ht, hl]; exact hI.tk, fun c hc => ?_, by rw [hL.Fr, hfr]; exact hI.F, hQ, by rw [hL.nx, hnx]; exact hI.nx, fun x hx hxu => ?_, fun x hx => ?_, by rw [hn]; have := hI.la; omega, fun i hi => ?_⟩
 ·obtain ⟨h6, h7⟩ := hI.th (by omega)
  rw [hat]
  exact ⟨hL.G.plc 3 _ (by decide) h6, fun o h8 h9 => (hL.G.keep 3 _ (by decide) (by decide) (by decide) h6 o h8 h9).trans (h7 o h8 h9)⟩
 ·rw [hn]; exact hL.un hI.U c hc
 ·rw [hus] at hxu
  simp only [List.mem_cons, not_or] at hxu
  rw [ht, (hL.O x hx hxu.1).1]; exact hI.us x hx hxu.2
 ·rcases hfs x hx with h9 | ⟨h1, h3, h4, f, g, h5, h6, h7⟩
  ·obtain ⟨g1, g2, g3, f, g, g4, g5, g6⟩ := hI.fs x h9
   have hne : x.1 ≠ s := fun e => by
    rw [e, hA] at g3
    have := hI.hl.n
    have hk := hI.k2
    exact (packN_lt (h := x.2.1) (r := 15) (by
     have := (hI.hl.lv x.2.1 g2).choose_spec
     have := (List.getElem?_eq_some_iff.1 this).1
     omega) (by decide)).2 g3.symm
   exact ⟨g1, by omega, by rw [ht, (hL.O _ g1 hne).1]; exact g3, f, g, by rw [hl]; exact g4, (hfac f g5).1, (hfac f g5).2.trans g6⟩
  ·exact ⟨by omega, by omega, by rw [h1, ht, h3]; exact hL.A, f, g, by rw [hl, h3]; exact h5, (hfac f h6).1, (hfac f h6).2.trans h7⟩
 ·rw [hmp.1, hmp.2.1, hmp.2.2]; exact hI.mp i (by omega)
theorem KInv.back {top : Nat} {K : KA} {y y' : KRec} (hI : KInv top K y) (hB : BackR top y.t y.S y'.S) (h1 : y'.t = y.t) (h2 : y'.l = y.l) (h3 : y'.last = y.last) (h4 : y'.gf = y.gf) (h5 : y'.qf = y.qf) (h6 : y'.lf = y.lf) (h7 : y'.u = y.u) (h8 : y'.at9 = y.at9) : KInv top K y' := by
 refine ⟨hB.P, by rw [h1]; exact hB.T, by rw [h2]; exact hI.hl, hI.k2, fun h3 => ?_, by rw [h1, h2]; exact hI.tk, fun c hc => by rw [hB.U c]; exact hI.U c hc, by rw [hB.Fr]; exact hI.F, by rw [hB.Q, h7]; exact hI.Q, by rw [hB.nx]; exact hI.nx, fun s hs hu => by rw [h1, (hB.O s hs).1]; exact hI.us s hs hu, fun x hx => ?_, by rw [h3]; exact hI.la, fun h hh => by rw [h4, h5, h6]; exact hI.mp h hh⟩
 ·obtain ⟨k6, k7⟩ := hI.th h3
  rw [h8]
  exact ⟨hB.G.plc 3 _ (by decide) k6, fun o k8 k9 => (hB.G.keep 3 _ (by decide) (by decide) (by decide) k6 o k8 k9).trans (k7 o k8 k9)⟩
 obtain ⟨g1, g2, g3, f, g, g4, g5, g6⟩ := hI.fs x hx
 have hb := Plc.bd hI.P (c := 1) (by decide) g5
 have e64 : clsz 1 = 64 := rfl
 refine ⟨g1, g2, by rw [h1, (hB.O _ g1).1]; exact g3, f, g, by rw [h2]; exact g4, hB.G.plc 1 f (by decide) g5, ?_⟩
 rw [hB.G.keep 1 f (by decide) (by decide) (by decide) g5 f (Nat.le_refl _) (by omega)]; exact g6
end Go.Proofs.YtnlgmaibhlicjaaGreatDoor
