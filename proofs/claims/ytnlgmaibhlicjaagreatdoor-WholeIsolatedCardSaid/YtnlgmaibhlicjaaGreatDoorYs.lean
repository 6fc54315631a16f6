/- Proved here: contracts of functions of this program, under the premises that each theorem names. -/
import Derived.Test.YtnlgmaibhlicjaaGreatDoorYr
set_option maxRecDepth 4000
namespace Go.Proofs.YtnlgmaibhlicjaaGreatDoor
open Go Go.QM
set_option maxHeartbeats 2000000 in
theorem cdec_ok (ad : Option Addr) (cap : Nat) (op s a b x : Nat) (hop : 1 ≤ op ∧ op ≤ 18) (hs : s ≤ 255) (ha : a ≤ 255) (hb : b ≤ 255) (hx : x < 2 ^ 64) : FSpec Tryz.prog 103 [.slice ad 2 cap] noRd [slc 31 1 ad 2 cap (wordsC op s a b x)] (fun y : Option Addr × Nat => .tuple #[.agg #[.int .i64 (op : Int), .int .i64 (s : Int), .int .i64 (a : Int), .int .i64 (b : Int), .int .i64 0, .bool false, .int .u64 (x : Int), .slice y.1 0 y.2, .slice none 0 0], .int .i64 0]) (fun _ => True) (fun _ => [slc 31 1 ad 2 cap (wordsC op s a b x)]) := by
 refine fI Tryz.func103 Tryz.ntmps103 ?_
 intro F _
 refine zz [39] ?_
 have hc0 : 0 < (wordsC op s a b x).length := by show 0 < 2; decide
 have hw : headN op s a b < 2 ^ 64 := by rw [headN]; omega
 refine TC.factSlc 0 rfl (fun _ hcap _ => ?_)
 refine zz [0,1,5] ?_
 refine al (l := [.int _ _, .int _ _, .int _ _, .int _ _, .int _ _, .bool _, .int _ _, .slice _ _ _, .slice _ _ _]) rfl rfl ?_
 intro b1
 refine zz [4,2,0,0,1,29,147,38,2] ?_
 refine TC.condD rfl (fun hc1 => absurd hc1 (by omega)) (fun hc1 => ?_)
 refine zz [7,0,1,5] ?_
 refine cl (clay_ok) rfl (picked_nil _) trivial ?_
 intro _ _
 refine zz [43,5] ?_
 refine al (l := lay0C) rfl rfl ?_
 intro bl
 refine e0 ?_
 refine st (v := .agg layC.toArray) (vs := layC) 24 rfl rfl rfl rfl rfl rfl (Nat.le_of_ble_eq_true rfl) rfl ?_
 refine zz [2,0] ?_
 refine TC.draw _ [] [(0, false), (1, false), (2, false), (3, false), (4, false), (5, false), (7, false), (8, false), (9, false), (10, false), (11, false), (12, false), (6, true), (13, true), (14, false), (15, false)] (by kernel_rfl) (by kernel_rfl) (ent_take 0 rfl (ent_take 1 rfl (ent_nil _))) ?_
 refine zz [196,25,103,102,185,18,153,25,103,102,185,18,16] ?_
 refine cl (cget_ok 16 4 (headN op s a b) 0 15 (by decide) (by decide) hw (by decide) (by rw [headN]; omega)) rfl (picked_nil _) trivial ?_
 intro _ _
 refine zz [166,8,16] ?_
 refine cl (cget_ok 20 2 (headN op s a b) 0 3 (by decide) (by decide) hw (by decide) (by rw [headN]; omega)) rfl (picked_nil _) trivial ?_
 intro _ _
 refine zz [166,8,41,41,27,0,0,1,29,147,3,36,3,36,23,2] ?_
 refine TC.condD rfl (fun hc2 => absurd hc2 (by omega)) (fun hc2 => ?_)
 refine zz [7] ?_
 refine TC.cut (ι := Nat) (fun q7 => True) (fun q7 => [(0, .slice ad 2 cap), (2, .pointer (some ⟨b1, 0, none⟩)), (3, .int .i64 0), (5, .int .i64 0), (7, .pointer (some ⟨q7, 0, none⟩))]) (fun q7 => sepL [pts q7 42 [.int .i64 (op : Int), .int .i64 (s : Int), .int .i64 (a : Int), .int .i64 (b : Int), .int .i64 0, .bool false, .int .u64 (x : Int), .slice none 0 0, .slice none 0 0], pts b1 42 [.int .i64 0, .int .i64 0, .int .i64 0, .int .i64 0, .int .i64 0, .bool false, .int .u64 0, .slice none 0 0, .slice none 0 0], slc 31 1 ad 2 cap (wordsC op s a b x), F]) ?_ ?_
 ·refine TC.drawF _ [48] 49 rfl (by kernel_rfl) (by kernel_rfl) (ent_take 0 rfl (ent_take 1 rfl (ent_nil _))) ?_
  first | refine fq (i := 0) rfl rfl rfl (by kernel_rfl) (fa 3 rfl rfl) ?_ | refine fq (i := 0) rfl rfl rfl (by kernel_rfl) (faS 3 rfl rfl asm0) ?_
  first | refine fq (i := 1) rfl rfl rfl (by kernel_rfl) (fa 0 rfl rfl) ?_ | refine fq (i := 1) rfl rfl rfl (by kernel_rfl) (faS 0 rfl rfl asm0) ?_
  first | refine fq (i := 2) rfl rfl rfl (by kernel_rfl) (ldN (vs := [_, _]) 2 rfl rfl rfl rfl) ?_ | refine fq (i := 2) rfl rfl rfl (by kernel_rfl) (ldSN (vs := [_, _]) 2 rfl rfl rfl rfl (by decide)) ?_
  refine fq (i := 3) rfl rfl rfl (by kernel_rfl) (mv (v := .slice _ _ _) rfl) ?_
  first | refine fq (i := 4) rfl rfl rfl (by kernel_rfl) (ixS 31 1 rfl rfl rfl (by omega) asm0) ?_ | refine fq (i := 4) rfl rfl rfl (by kernel_rfl) (ixJ 31 1 rfl rfl rfl (by omega) (by omega) asm0) ?_ | refine fq (i := 4) rfl rfl rfl (by kernel_rfl) (ix 31 1 rfl rfl rfl (by omega) (by omega) rfl) ?_
  refine zz [219] ?_
  first | refine fq (i := 7) rfl rfl rfl (by kernel_rfl) (fa 0 rfl rfl) ?_ | refine fq (i := 7) rfl rfl rfl (by kernel_rfl) (faS 0 rfl rfl asm0) ?_
  first | refine fq (i := 8) rfl rfl rfl (by kernel_rfl) (fa 0 rfl rfl) ?_ | refine fq (i := 8) rfl rfl rfl (by kernel_rfl) (faS 0 rfl rfl asm0) ?_
  first | refine fq (i := 9) rfl rfl rfl (by kernel_rfl) (ldN (vs := [_, _]) 2 rfl rfl rfl rfl) ?_ | refine fq (i := 9) rfl rfl rfl (by kernel_rfl) (ldSN (vs := [_, _]) 2 rfl rfl rfl rfl (by decide)) ?_
  refine fq (i := 10) rfl rfl rfl (by kernel_rfl) (mv (v := .slice _ _ _) rfl) ?_
  first | refine fq (i := 11) rfl rfl rfl (by kernel_rfl) (ixS 31 1 rfl rfl rfl (by omega) asm0) ?_ | refine fq (i := 11) rfl rfl rfl (by kernel_rfl) (ixJ 31 1 rfl rfl rfl (by omega) (by omega) asm0) ?_ | refine fq (i := 11) rfl rfl rfl (by kernel_rfl) (ix 31 1 rfl rfl rfl (by omega) (by omega) rfl) ?_
  first | refine fq (i := 12) rfl rfl rfl (by kernel_rfl) (ld rfl rfl rfl) ?_ | refine fq (i := 12) rfl rfl rfl (by kernel_rfl) (ldS rfl rfl rfl) ?_
  first | refine fq (i := 14) rfl rfl rfl (by kernel_rfl) (fa 15 rfl rfl) ?_ | refine fq (i := 14) rfl rfl rfl (by kernel_rfl) (faS 15 rfl rfl asm0) ?_
  first | refine fq (i := 15) rfl rfl rfl (by kernel_rfl) (fa 0 rfl rfl) ?_ | refine fq (i := 15) rfl rfl rfl (by kernel_rfl) (faS 0 rfl rfl asm0) ?_
  first | refine fq (i := 16) rfl rfl rfl (by kernel_rfl) (ldN (vs := [_, _]) 2 rfl rfl rfl rfl) ?_ | refine fq (i := 16) rfl rfl rfl (by kernel_rfl) (ldSN (vs := [_, _]) 2 rfl rfl rfl rfl (by decide)) ?_
  refine fq (i := 17) rfl rfl rfl (by kernel_rfl) (mv (v := .slice _ _ _) rfl) ?_
  first | refine fq (i := 18) rfl rfl rfl (by kernel_rfl) (ixS 31 1 rfl rfl rfl (by omega) asm0) ?_ | refine fq (i := 18) rfl rfl rfl (by kernel_rfl) (ixJ 31 1 rfl rfl rfl (by omega) (by omega) asm0) ?_ | refine fq (i := 18) rfl rfl rfl (by kernel_rfl) (ix 31 1 rfl rfl rfl (by omega) (by omega) rfl) ?_
  first | refine fq (i := 19) rfl rfl rfl (by kernel_rfl) (ld rfl rfl rfl) ?_ | refine fq (i := 19) rfl rfl rfl (by kernel_rfl) (ldS rfl rfl rfl) ?_
  first | refine fq (i := 21) rfl rfl rfl (by kernel_rfl) (fa 18 rfl rfl) ?_ | refine fq (i := 21) rfl rfl rfl (by kernel_rfl) (faS 18 rfl rfl asm0) ?_
  first | refine fq (i := 22) rfl rfl rfl (by kernel_rfl) (fa 0 rfl rfl) ?_ | refine fq (i := 22) rfl rfl rfl (by kernel_rfl) (faS 0 rfl rfl asm0) ?_
  first | refine fq (i := 23) rfl rfl rfl (by kernel_rfl) (ldN (vs := [_, _]) 2 rfl rfl rfl rfl) ?_ | refine fq (i := 23) rfl rfl rfl (by kernel_rfl) (ldSN (vs := [_, _]) 2 rfl rfl rfl rfl (by decide)) ?_
  refine fq (i := 24) rfl rfl rfl (by kernel_rfl) (mv (v := .slice _ _ _) rfl) ?_
  first | refine fq (i := 25) rfl rfl rfl (by kernel_rfl) (ixS 31 1 rfl rfl rfl (by omega) asm0) ?_ | refine fq (i := 25) rfl rfl rfl (by kernel_rfl) (ixJ 31 1 rfl rfl rfl (by omega) (by omega) asm0) ?_ | refine fq (i := 25) rfl rfl rfl (by kernel_rfl) (ix 31 1 rfl rfl rfl (by omega) (by omega) rfl) ?_
  first | refine fq (i := 26) rfl rfl rfl (by kernel_rfl) (ld rfl rfl rfl) ?_ | refine fq (i := 26) rfl rfl rfl (by kernel_rfl) (ldS rfl rfl rfl) ?_
  first | refine fq (i := 28) rfl rfl rfl (by kernel_rfl) (fa 21 rfl rfl) ?_ | refine fq (i := 28) rfl rfl rfl (by kernel_rfl) (faS 21 rfl rfl asm0) ?_
  first | refine fq (i := 29) rfl rfl rfl (by kernel_rfl) (fa 0 rfl rfl) ?_ | refine fq (i := 29) rfl rfl rfl (by kernel_rfl) (faS 0 rfl rfl asm0) ?_
  first | refine fq (i := 30) rfl rfl rfl (by kernel_rfl) (ldN (vs := [_, _]) 2 rfl rfl rfl rfl) ?_ | refine fq (i := 30) rfl rfl rfl (by kernel_rfl) (ldSN (vs := [_, _]) 2 rfl rfl rfl rfl (by decide)) ?_
  refine fq (i := 31) rfl rfl rfl (by kernel_rfl) (mv (v := .slice _ _ _) rfl) ?_
  first | refine fq (i := 32) rfl rfl rfl (by kernel_rfl) (ixS 31 1 rfl rfl rfl (by omega) asm0) ?_ | refine fq (i := 32) rfl rfl rfl (by kernel_rfl) (ixJ 31 1 rfl rfl rfl (by omega) (by omega) asm0) ?_ | refine fq (i := 32) rfl rfl rfl (by kernel_rfl) (ix 31 1 rfl rfl rfl (by omega) (by omega) rfl) ?_
  first | refine fq (i := 33) rfl rfl rfl (by kernel_rfl) (ld rfl rfl rfl) ?_ | refine fq (i := 33) rfl rfl rfl (by kernel_rfl) (ldS rfl rfl rfl) ?_
  first | refine fq (i := 35) rfl rfl rfl (by kernel_rfl) (fa 12 rfl rfl) ?_ | refine fq (i := 35) rfl rfl rfl (by kernel_rfl) (faS 12 rfl rfl asm0) ?_
  first | refine fq (i := 36) rfl rfl rfl (by kernel_rfl) (fa 0 rfl rfl) ?_ | refine fq (i := 36) rfl rfl rfl (by kernel_rfl) (faS 0 rfl rfl asm0) ?_
  first | refine fq (i := 37) rfl rfl rfl (by kernel_rfl) (ldN (vs := [_, _]) 2 rfl rfl rfl rfl) ?_ | refine fq (i := 37) rfl rfl rfl (by kernel_rfl) (ldSN (vs := [_, _]) 2 rfl rfl rfl rfl (by decide)) ?_
  refine fq (i := 38) rfl rfl rfl (by kernel_rfl) (mv (v := .slice _ _ _) rfl) ?_
  first | refine fq (i := 39) rfl rfl rfl (by kernel_rfl) (ixS 31 1 rfl rfl rfl (by omega) asm0) ?_ | refine fq (i := 39) rfl rfl rfl (by kernel_rfl) (ixJ 31 1 rfl rfl rfl (by omega) (by omega) asm0) ?_ | refine fq (i := 39) rfl rfl rfl (by kernel_rfl) (ix 31 1 rfl rfl rfl (by omega) (by omega) rfl) ?_
  first | refine fq (i := 40) rfl rfl rfl (by kernel_rfl) (ld rfl rfl rfl) ?_ | refine fq (i := 40) rfl rfl rfl (by kernel_rfl) (ldS rfl rfl rfl) ?_
  refine fq (i := 43) rfl rfl rfl (by kernel_rfl) (mv (v := .slice _ _ _) rfl) ?_
  first | refine fq (i := 44) rfl rfl rfl (by kernel_rfl) (ixS 31 1 rfl rfl rfl (by omega) asm0) ?_ | refine fq (i := 44) rfl rfl rfl (by kernel_rfl) (ixJ 31 1 rfl rfl rfl (by omega) (by omega) asm0) ?_ | refine fq (i := 44) rfl rfl rfl (by kernel_rfl) (ix 31 1 rfl rfl rfl (by omega) (by omega) rfl) ?_
  first | refine fq (i := 45) rfl rfl rfl (by kernel_rfl) (ld rfl rfl rfl) ?_ | refine fq (i := 45) rfl rfl rfl (by kernel_rfl) (ldS rfl rfl rfl) ?_
  refine ff (i := 6) (j := 47) rfl rfl rfl rfl (by kernel_rfl) ?_ ?_
  ·refine cl (cget_ok 8 8 (headN op s a b) op 255 (by decide) (by decide) hw (by decide) (by rw [headN]; omega)) rfl (picked_nil _) trivial ?_
   intro _ _
   refine zz [154,8] ?_
   refine ff (i := 13) (j := 47) rfl rfl rfl rfl (by kernel_rfl) ?_ ?_
   ·refine cl (cget_ok 0 8 (headN op s a b) s 255 (by decide) (by decide) hw (by decide) (by rw [headN]; omega)) rfl (picked_nil _) trivial ?_
    intro _ _
    refine zz [154,8] ?_
    refine ff (i := 20) (j := 47) rfl rfl rfl rfl (by kernel_rfl) ?_ ?_
    ·refine cl (cget_ok 24 8 (headN op s a b) a 255 (by decide) (by decide) hw (by decide) (by rw [headN]; omega)) rfl (picked_nil _) trivial ?_
     intro _ _
     refine zz [154,8] ?_
     refine ff (i := 27) (j := 47) rfl rfl rfl rfl (by kernel_rfl) ?_ ?_
     ·refine cl (cget_ok 32 8 (headN op s a b) b 255 (by decide) (by decide) hw (by decide) (by rw [headN]; omega)) rfl (picked_nil _) trivial ?_
      intro _ _
      refine zz [154,8] ?_
      refine ff (i := 34) (j := 47) rfl rfl rfl rfl (by kernel_rfl) ?_ ?_
      ·refine cl (cget_ok 40 21 (headN op s a b) 0 2097151 (by decide) (by decide) hw (by decide) (by rw [headN]; omega)) rfl (picked_nil _) trivial ?_
       intro _ _
       refine zz [154,8] ?_
       refine ff (i := 41) (j := 47) rfl rfl rfl rfl (by kernel_rfl) ?_ ?_
       ·refine cl (cget_ok 22 1 (headN op s a b) 0 1 (by decide) (by decide) hw (by decide) (by rw [headN]; omega)) rfl (picked_nil _) trivial ?_
        intro _ _
        refine zz [154,8] ?_
        refine TF.of [(42, false), (46, false), (47, true), (48, true)] (by kernel_rfl) rfl ?_
        refine zz [155] ?_
        refine dq rfl rfl rfl (bld (cs := [.int .i64 (op : Int), .int .i64 (s : Int), .int .i64 (a : Int), .int .i64 (b : Int), .int .i64 0, .bool false, .int .u64 (x : Int), .slice none 0 0, .slice none 0 0]) (by kernel_rfl)) ?_
        refine de rfl rfl ?_
        refine al (l := [.int _ _, .int _ _, .int _ _, .int _ _, .int _ _, .bool _, .int _ _, .slice _ _ _, .slice _ _ _]) rfl rfl ?_
        intro b2
        refine zz [8,70] ?_
        refine st (v := .agg (List.toArray [.int .i64 (op : Int), .int .i64 (s : Int), .int .i64 (a : Int), .int .i64 (b : Int), .int .i64 0, .bool false, .int .u64 (x : Int), .slice none 0 0, .slice none 0 0])) (vs := [.int .i64 (op : Int), .int .i64 (s : Int), .int .i64 (a : Int), .int .i64 (b : Int), .int .i64 0, .bool false, .int .u64 (x : Int), .slice none 0 0, .slice none 0 0]) 9 rfl rfl rfl rfl rfl rfl (Nat.le_of_ble_eq_true rfl) rfl ?_
        refine TD.nil (nt ?_)
        exact ⟨rfl, b2, trivial, ⟨rfl, rfl, rfl, rfl, rfl, trivial⟩, entS⟩
       ·refine al (l := [.int _ _, .int _ _, .int _ _, .int _ _, .int _ _, .bool _, .int _ _, .slice _ _ _, .slice _ _ _]) rfl rfl ?_
        intro b3
        refine ⟨entS, ?_⟩
        refine TF.of [(41, true), (42, false), (46, false), (48, true)] (by kernel_rfl) rfl ?_
        refine de rfl rfl ?_
        refine cl (cget_ok 22 1 (headN op s a b) 0 1 (by decide) (by decide) hw (by decide) (by rw [headN]; omega)) rfl (picked_nil _) trivial ?_
        intro _ _
        refine zz [65,8,155] ?_
        refine dq rfl rfl rfl (bld (cs := [.int .i64 (op : Int), .int .i64 (s : Int), .int .i64 (a : Int), .int .i64 (b : Int), .int .i64 0, .bool false, .int .u64 (x : Int), .slice none 0 0, .slice none 0 0]) (by kernel_rfl)) ?_
        refine zz [70] ?_
        refine st (v := .agg (List.toArray [.int .i64 (op : Int), .int .i64 (s : Int), .int .i64 (a : Int), .int .i64 (b : Int), .int .i64 0, .bool false, .int .u64 (x : Int), .slice none 0 0, .slice none 0 0])) (vs := [.int .i64 (op : Int), .int .i64 (s : Int), .int .i64 (a : Int), .int .i64 (b : Int), .int .i64 0, .bool false, .int .u64 (x : Int), .slice none 0 0, .slice none 0 0]) 9 rfl rfl rfl rfl rfl rfl (Nat.le_of_ble_eq_true rfl) rfl ?_
        refine TD.nil (nt ?_)
        exact ⟨rfl, b3, trivial, ⟨rfl, rfl, rfl, rfl, rfl, trivial⟩, entS⟩
      ·refine al (l := [.int _ _, .int _ _, .int _ _, .int _ _, .int _ _, .bool _, .int _ _, .slice _ _ _, .slice _ _ _]) rfl rfl ?_
       intro b4
       refine ⟨entS, ?_⟩
       refine TF.of [(34, true), (41, true), (42, false), (46, false), (48, true)] (by kernel_rfl) rfl ?_
       refine de rfl rfl ?_
       refine cl (cget_ok 40 21 (headN op s a b) 0 2097151 (by decide) (by decide) hw (by decide) (by rw [headN]; omega)) rfl (picked_nil _) trivial ?_
       intro _ _
       refine zz [65,8,16] ?_
       refine cl (cget_ok 22 1 (headN op s a b) 0 1 (by decide) (by decide) hw (by decide) (by rw [headN]; omega)) rfl (picked_nil _) trivial ?_
       intro _ _
       refine zz [65,8,155] ?_
       refine dq rfl rfl rfl (bld (cs := [.int .i64 (op : Int), .int .i64 (s : Int), .int .i64 (a : Int), .int .i64 (b : Int), .int .i64 0, .bool false, .int .u64 (x : Int), .slice none 0 0, .slice none 0 0]) (by kernel_rfl)) ?_
       refine zz [70] ?_
       refine st (v := .agg (List.toArray [.int .i64 (op : Int), .int .i64 (s : Int), .int .i64 (a : Int), .int .i64 (b : Int), .int .i64 0, .bool false, .int .u64 (x : Int), .slice none 0 0, .slice none 0 0])) (vs := [.int .i64 (op : Int), .int .i64 (s : Int), .int .i64 (a : Int), .int .i64 (b : Int), .int .i64 0, .bool false, .int .u64 (x : Int), .slice none 0 0, .slice none 0 0]) 9 rfl rfl rfl rfl rfl rfl (Nat.le_of_ble_eq_true rfl) rfl ?_
       refine TD.nil (nt ?_)
       exact ⟨rfl, b4, trivial, ⟨rfl, rfl, rfl, rfl, rfl, trivial⟩, entS⟩
     ·refine al (l := [.int _ _, .int _ _, .int _ _, .int _ _, .int _ _, .bool _, .int _ _, .slice _ _ _, .slice _ _ _]) rfl rfl ?_
      intro b5
      refine ⟨entS, ?_⟩
      refine TF.of [(27, true), (34, true), (41, true), (42, false), (46, false), (48, true)] (by kernel_rfl) rfl ?_
      refine de rfl rfl ?_
      refine cl (cget_ok 32 8 (headN op s a b) b 255 (by decide) (by decide) hw (by decide) (by rw [headN]; omega)) rfl (picked_nil _) trivial ?_
      intro _ _
      refine zz [65,8,16] ?_
      refine cl (cget_ok 40 21 (headN op s a b) 0 2097151 (by decide) (by decide) hw (by decide) (by rw [headN]; omega)) rfl (picked_nil _) trivial ?_
      intro _ _
      refine zz [65,8,16] ?_
      refine cl (cget_ok 22 1 (headN op s a b) 0 1 (by decide) (by decide) hw (by decide) (by rw [headN]; omega)) rfl (picked_nil _) trivial ?_
      intro _ _
      refine zz [65,8,155] ?_
      refine dq rfl rfl rfl (bld (cs := [.int .i64 (op : Int), .int .i64 (s : Int), .int .i64 (a : Int), .int .i64 (b : Int), .int .i64 0, .bool false, .int .u64 (x : Int), .slice none 0 0, .slice none 0 0]) (by kernel_rfl)) ?_
      refine zz [70] ?_
      refine st (v := .agg (List.toArray [.int .i64 (op : Int), .int .i64 (s : Int), .int .i64 (a : Int), .int .i64 (b : Int), .int .i64 0, .bool false, .int .u64 (x : Int), .slice none 0 0, .slice none 0 0])) (vs := [.int .i64 (op : Int), .int .i64 (s : Int), .int .i64 (a : Int), .int .i64 (b : Int), .int .i64 0, .bool false, .int .u64 (x : Int), .slice none 0 0, .slice none 0 0]) 9 rfl rfl rfl rfl rfl rfl (Nat.le_of_ble_eq_true rfl) rfl ?_
      refine TD.nil (nt ?_)
      exact ⟨rfl, b5, trivial, ⟨rfl, rfl, rfl, rfl, rfl, trivial⟩, entS⟩
    ·refine al (l := [.int _ _, .int _ _, .int _ _, .int _ _, .int _ _, .bool _, .int _ _, .slice _ _ _, .slice _ _ _]) rfl rfl ?_
     intro b6
     refine ⟨entS, ?_⟩
     refine TF.of [(20, true), (27, true), (34, true), (41, true), (42, false), (46, false), (48, true)] (by kernel_rfl) rfl ?_
     refine de rfl rfl ?_
     refine cl (cget_ok 24 8 (headN op s a b) a 255 (by decide) (by decide) hw (by decide) (by rw [headN]; omega)) rfl (picked_nil _) trivial ?_
     intro _ _
     refine zz [65,8,16] ?_
     refine cl (cget_ok 32 8 (headN op s a b) b 255 (by decide) (by decide) hw (by decide) (by rw [headN]; omega)) rfl (picked_nil _) trivial ?_
     intro _ _
     refine zz [65,8,16] ?_
     refine cl (cget_ok 40 21 (headN op s a b) 0 2097151 (by decide) (by decide) hw (by decide) (by rw [headN]; omega)) rfl (picked_nil _) trivial ?_
     intro _ _
     refine zz [65,8,16] ?_
     refine cl (cget_ok 22 1 (headN op s a b) 0 1 (by decide) (by decide) hw (by decide) (by rw [headN]; omega)) rfl (picked_nil _) trivial ?_
     intro _ _
     refine zz [65,8,155] ?_
     refine dq rfl rfl rfl (bld (cs := [.int .i64 (op : Int), .int .i64 (s : Int), .int .i64 (a : Int), .int .i64 (b : Int), .int .i64 0, .bool false, .int .u64 (x : Int), .slice none 0 0, .slice none 0 0]) (by kernel_rfl)) ?_
     refine zz [70] ?_
     refine st (v := .agg (List.toArray [.int .i64 (op : Int), .int .i64 (s : Int), .int .i64 (a : Int), .int .i64 (b : Int), .int .i64 0, .bool false, .int .u64 (x : Int), .slice none 0 0, .slice none 0 0])) (vs := [.int .i64 (op : Int), .int .i64 (s : Int), .int .i64 (a : Int), .int .i64 (b : Int), .int .i64 0, .bool false, .int .u64 (x : Int), .slice none 0 0, .slice none 0 0]) 9 rfl rfl rfl rfl rfl rfl (Nat.le_of_ble_eq_true rfl) rfl ?_
     refine TD.nil (nt ?_)
     exact ⟨rfl, b6, trivial, ⟨rfl, rfl, rfl, rfl, rfl, trivial⟩, entS⟩
   ·refine al (l := [.int _ _, .int _ _, .int _ _, .int _ _, .int _ _, .bool _, .int _ _, .slice _ _ _, .slice _ _ _]) rfl rfl ?_
    intro b7
    refine ⟨entS, ?_⟩
    refine TF.of [(13, true), (20, true), (27, true), (34, true), (41, true), (42, false), (46, false), (48, true)] (by kernel_rfl) rfl ?_
    refine de rfl rfl ?_
    refine cl (cget_ok 0 8 (headN op s a b) s 255 (by decide) (by decide) hw (by decide) (by rw [headN]; omega)) rfl (picked_nil _) trivial ?_
    intro _ _
    refine zz [65,8,16] ?_
    refine cl (cget_ok 24 8 (headN op s a b) a 255 (by decide) (by decide) hw (by decide) (by rw [headN]; omega)) rfl (picked_nil _) trivial ?_
    intro _ _
    refine zz [65,8,16] ?_
    refine cl (cget_ok 32 8 (headN op s a b) b 255 (by decide) (by decide) hw (by decide) (by rw [headN]; omega)) rfl (picked_nil _) trivial ?_
    intro _ _
    refine zz [65,8,16] ?_
    refine cl (cget_ok 40 21 (headN op s a b) 0 2097151 (by decide) (by decide) hw (by decide) (by rw [headN]; omega)) rfl (picked_nil _) trivial ?_
    intro _ _
    refine zz [65,8,16] ?_
    refine cl (cget_ok 22 1 (headN op s a b) 0 1 (by decide) (by decide) hw (by decide) (by rw [headN]; omega)) rfl (picked_nil _) trivial ?_
    intro _ _
    refine zz [65,8,155] ?_
    refine dq rfl rfl rfl (bld (cs := [.int .i64 (op : Int), .int .i64 (s : Int), .int .i64 (a : Int), .int .i64 (b : Int), .int .i64 0, .bool false, .int .u64 (x : Int), .slice none 0 0, .slice none 0 0]) (by kernel_rfl)) ?_
    refine zz [70] ?_
    refine st (v := .agg (List.toArray [.int .i64 (op : Int), .int .i64 (s : Int), .int .i64 (a : Int), .int .i64 (b : Int), .int .i64 0, .bool false, .int .u64 (x : Int), .slice none 0 0, .slice none 0 0])) (vs := [.int .i64 (op : Int), .int .i64 (s : Int), .int .i64 (a : Int), .int .i64 (b : Int), .int .i64 0, .bool false, .int .u64 (x : Int), .slice none 0 0, .slice none 0 0]) 9 rfl rfl rfl rfl rfl rfl (Nat.le_of_ble_eq_true rfl) rfl ?_
    refine TD.nil (nt ?_)
    exact ⟨rfl, b7, trivial, ⟨rfl, rfl, rfl, rfl, rfl, trivial⟩, entS⟩
  ·refine al (l := [.int _ _, .int _ _, .int _ _, .int _ _, .int _ _, .bool _, .int _ _, .slice _ _ _, .slice _ _ _]) rfl rfl ?_
   intro b8
   refine ⟨entS, ?_⟩
   refine TF.of [(6, true), (13, true), (20, true), (27, true), (34, true), (41, true), (42, false), (46, false), (48, true)] (by kernel_rfl) rfl ?_
   refine de rfl rfl ?_
   refine cl (cget_ok 8 8 (headN op s a b) op 255 (by decide) (by decide) hw (by decide) (by rw [headN]; omega)) rfl (picked_nil _) trivial ?_
   intro _ _
   refine zz [65,8,16] ?_
   refine cl (cget_ok 0 8 (headN op s a b) s 255 (by decide) (by decide) hw (by decide) (by rw [headN]; omega)) rfl (picked_nil _) trivial ?_
   intro _ _
   refine zz [65,8,16] ?_
   refine cl (cget_ok 24 8 (headN op s a b) a 255 (by decide) (by decide) hw (by decide) (by rw [headN]; omega)) rfl (picked_nil _) trivial ?_
   intro _ _
   refine zz [65,8,16] ?_
   refine cl (cget_ok 32 8 (headN op s a b) b 255 (by decide) (by decide) hw (by decide) (by rw [headN]; omega)) rfl (picked_nil _) trivial ?_
   intro _ _
   refine zz [65,8,16] ?_
   refine cl (cget_ok 40 21 (headN op s a b) 0 2097151 (by decide) (by decide) hw (by decide) (by rw [headN]; omega)) rfl (picked_nil _) trivial ?_
   intro _ _
   refine zz [65,8,16] ?_
   refine cl (cget_ok 22 1 (headN op s a b) 0 1 (by decide) (by decide) hw (by decide) (by rw [headN]; omega)) rfl (picked_nil _) trivial ?_
   intro _ _
   refine zz [65,8,155] ?_
   refine dq rfl rfl rfl (bld (cs := [.int .i64 (op : Int), .int .i64 (s : Int), .int .i64 (a : Int), .int .i64 (b : Int), .int .i64 0, .bool false, .int .u64 (x : Int), .slice none 0 0, .slice none 0 0]) (by kernel_rfl)) ?_
   refine zz [70] ?_
   refine st (v := .agg (List.toArray [.int .i64 (op : Int), .int .i64 (s : Int), .int .i64 (a : Int), .int .i64 (b : Int), .int .i64 0, .bool false, .int .u64 (x : Int), .slice none 0 0, .slice none 0 0])) (vs := [.int .i64 (op : Int), .int .i64 (s : Int), .int .i64 (a : Int), .int .i64 (b : Int), .int .i64 0, .bool false, .int .u64 (x : Int), .slice none 0 0, .slice none 0 0]) 9 rfl rfl rfl rfl rfl rfl (Nat.le_of_ble_eq_true rfl) rfl ?_
   refine TD.nil (nt ?_)
   exact ⟨rfl, b8, trivial, ⟨rfl, rfl, rfl, rfl, rfl, trivial⟩, entS⟩
 ·rintro q7 _ ρ0
  dsimp only [updL]
  refine TC.weak (slc_nil 31 1 _) ?_
  refine TC.seq ?_
  refine TC.draw _ [8] [(0, false), (1, false), (2, false), (3, false), (4, false), (5, false), (6, true), (7, false), (8, true)] (by kernel_rfl) (by kernel_rfl) (ent_take 1 rfl (ent_nil _)) ?_
  refine zz [181,18,102,33,161] ?_
  refine dq rfl rfl rfl (slFT 31 1 rfl rfl rfl rfl (by omega) (by omega) (by omega)) ?_
  refine de rfl rfl ?_
  refine ap (hr := rdsi_nil _ _) 8 rfl rfl rfl rfl rfl (Nat.le_of_ble_eq_true rfl) rfl rfl (by decide) (by simp only [maxLen]; omega) ?_
  intro ad1 cap1
  refine zz [8,181,70,110,27,0,0,1,29,3,36] ?_
  refine q rfl rfl (slF 31 1 rfl rfl rfl (by omega) (by omega)) ?_
  refine zz [147,3,2,17] ?_
  refine TC.loop (ι := Unit) (fun z => True) (fun z => [(0, .slice ad 2 cap), (2, .pointer (some ⟨b1, 0, none⟩)), (3, .int .i64 0), (7, .pointer (some ⟨q7, 0, none⟩)), (98, .int .i64 0), (99, .int .i64 0)]) (fun z => sepL [pts q7 42 [.int .i64 (op : Int), .int .i64 (s : Int), .int .i64 (a : Int), .int .i64 (b : Int), .int .i64 0, .bool false, .int .u64 (x : Int), .slice ad1 0 cap1, .slice none 0 0], pts b1 42 [.int .i64 0, .int .i64 0, .int .i64 0, .int .i64 0, .int .i64 0, .bool false, .int .u64 0, .slice none 0 0, .slice none 0 0], slc 31 1 ad 2 cap (wordsC op s a b x), F]) (fun z => 0) () trivial ⟨rfl, rfl, rfl, rfl, rfl, rfl, trivial⟩ entS ?_
  rintro _ _ ρ0
  dsimp only [updL]
  refine zz [0,1,38,2,0,10,50,0,0] ?_
  refine TC.draw _ [] [(0, false), (1, true), (2, false), (3, false), (4, false), (6, false), (7, false), (8, false), (5, true), (9, false), (10, false)] (by kernel_rfl) (by kernel_rfl) (ent_take 0 rfl (ent_take 1 rfl (ent_nil _))) ?_
  first | refine dq rfl rfl rfl (ldN (vs := _) 9 rfl rfl rfl rfl) ?_ | refine dq rfl rfl rfl (ldSN (vs := _) 9 rfl rfl rfl rfl (by decide)) ?_
  refine de rfl rfl ?_
  refine cl (cmay_ok op s a b x hop hs ha hb ad1 cap1 hx) rfl (picked_nil _) trivial ?_
  intro _ _
  refine zz [166,8,173,122] ?_
  first | refine dg rfl rfl rfl rfl (ldN (vs := _) 9 rfl rfl rfl rfl) ?_ | refine dg rfl rfl rfl rfl (ldSN (vs := _) 9 rfl rfl rfl rfl (by decide)) ?_
  refine dg rfl rfl rfl rfl (mv (v := .slice _ _ _) rfl) ?_
  first | refine dg rfl rfl rfl rfl (ixS 31 1 rfl rfl rfl (by omega) asm0) ?_ | refine dg rfl rfl rfl rfl (ixJ 31 1 rfl rfl rfl (by omega) (by omega) asm0) ?_ | refine dg rfl rfl rfl rfl (ix 31 1 rfl rfl rfl (by omega) (by omega) rfl) ?_
  refine zz [220,146] ?_
  refine cl (chead_ok op s a b x hop hs ha hb ad1 cap1 hx) rfl (picked_nil _) trivial ?_
  intro _ _
  refine zz [166,8] ?_
  refine dg rfl rfl rfl rfl (neI rfl rfl) ?_
  refine zz [109,27] ?_
  refine TC.condD rfl (fun hc3 => absurd hc3 ((fun h => h rfl))) (fun hc3 => ?_)
  refine zz [7,0,1,180,21,271,4,2,11] ?_
  exact Ret.i (ad1, cap1) [_, _] ⟨(rcN (n := 9) rfl rfl rfl rfl), rfl, trivial⟩ rfl trivial entS
theorem casks1_ok  : FSpec Tryz.prog 105 [.int .i64 1] GV [] (fun _ : Unit => .tuple #[.int .i64 1, .int .i64 1, .bool true]) (fun _ => True) (fun _ => []) := by
 refine fI Tryz.func105 Tryz.ntmps105 ?_
 intro F hF
 refine zz [37] ?_
 obtain ⟨E, fz, hT⟩ := hF.ct
 haveI : RdI F 1 (.cells asksC.toArray E fz) := ⟨hT⟩
 refine zz [0,1,4,4,9,2,0,0,1,3,38,20,32,139,19,2,10,7,0,227,33,134,25,18,33,134,60,18,33,134,58,18,41,41,124,27,11] ?_
 exact zc8
theorem casks2_ok  : FSpec Tryz.prog 105 [.int .i64 2] GV [] (fun _ : Unit => .tuple #[.int .i64 0, .int .i64 8, .bool true]) (fun _ => True) (fun _ => []) := by
 refine fI Tryz.func105 Tryz.ntmps105 ?_
 intro F hF
 refine zz [37] ?_
 obtain ⟨E, fz, hT⟩ := hF.ct
 haveI : RdI F 1 (.cells asksC.toArray E fz) := ⟨hT⟩
 refine zz [0,1,4,4,9,2,0,0,1,3,38,20,32,139,19,2,10,7,0,227,33,134,25,18,33,134,60,18,33,134,58,18,41,41,124,27,11] ?_
 exact zc8
theorem casks10_ok  : FSpec Tryz.prog 105 [.int .i64 10] GV [] (fun _ : Unit => .tuple #[.int .i64 4, .int .i64 1, .bool true]) (fun _ => True) (fun _ => []) := by
 refine fI Tryz.func105 Tryz.ntmps105 ?_
 intro F hF
 refine zz [37] ?_
 obtain ⟨E, fz, hT⟩ := hF.ct
 haveI : RdI F 1 (.cells asksC.toArray E fz) := ⟨hT⟩
 refine zz [0,1,4,4,9,2,0,0,1,3,38,20,32,139,19,2,10,7,0,227,33,134,25,18,33,134,60,18,33,134,58,18,41,41,124,27,11] ?_
 exact zc8
end Go.Proofs.YtnlgmaibhlicjaaGreatDoor
namespace Go.Proofs.YtnlgmaibhlicjaaGreatDoor
open Go Go.QM
theorem ints_all1 {xs : List Int} {n : Nat} (h : xs.length = n) : (ints xs).take (n * 1) = ints xs := List.take_of_length_le (by rw [ints_length]; omega)
theorem ints_one1 : ∀ (xs : List Int), (ints xs).all Value.oneCell' = true
 | [] => rfl
 | x :: xs => by have := ints_one1 xs; rw [ints] at this ⊢; rw [List.map_cons, List.all_cons, this]; rfl
theorem ints_app1 (xs ys : List Int) : ints xs ++ ints ys = ints (xs ++ ys) := by simp [ints]
theorem Rd_end {b : Nat} {o : Obj} {F : HP} (h : Rd F b o) : ∀ Bs : List HP, Rd (sepL (Bs ++ [F])) b o
 | [] => Rd_here h
 | _ :: Bs => Rd_next (Rd_end h Bs)
structure Off where
  fr : Int
  gt : Int
  cl : Bool
deriving DecidableEq
def o0 : Off := ⟨0, 0, false⟩
def ofC (o : Off) : List Value := [.int .i64 o.fr, .int .i64 o.gt, .bool o.cl]
theorem ofC_sz (o : Off) : (ofC o).length = 3 := rfl
def ofsC (S : List Off) : List Value := S.flatMap ofC
theorem ofsC_length (S : List Off) : (ofsC S).length = S.length * 3 := flat_length ofC_sz S
theorem ofs_app (S T : List Off) : ofsC S ++ ofsC T = ofsC (S ++ T) := by simp [ofsC]
structure MS where
  ids : List Int
  st : Int → Int
  cl : Int → Int
  pn : Int → Int
  row : Int → List Off
def frS (s : MS) (x : Int) : MS := { s with st := updI s.st x 0, pn := updI s.pn x (-1) }
def wtS (s : MS) (x v p : Int) : MS := { s with st := updI s.st x v, pn := updI s.pn x p }
def pushS (s : MS) (x : Int) (o : Off) : MS := { s with row := updI s.row x (s.row x ++ [o]) }
def rowS (s : MS) (x : Int) (R : List Off) : MS := { s with row := updI s.row x R }
def clS (s : MS) (x c : Int) : MS := { s with cl := updI s.cl x c }
def stS (s : MS) (x v : Int) : MS := { s with st := updI s.st x v }
def notO (pr : Off → Bool) : Off → Bool := fun o => !pr o
def cutMS (s : MS) (x : Int) (pr : Off → Bool) : MS := rowS s x ((s.row x).filter (notO pr))
def goneO (R : List Off) (pr : Off → Bool) : List Int := (R.filter pr).map (·.fr)
abbrev tP (A : Int → Nat) (ad : Int → Option Addr) (cap : Int → Nat) (s : MS) (x : Int) : HP := pts (A x) 298 [.slice (ad x) (s.row x).length (cap x), .int .i64 (s.st x), .int .i64 (s.cl x), .int .i64 (s.pn x)]
abbrev rP (ad : Int → Option Addr) (cap : Int → Nat) (s : MS) (x : Int) : HP := slc 391 3 (ad x) (s.row x).length (cap x) (ofsC (s.row x))
def fM (A : Int → Nat) (ids : List Int) : Int → Option Value := fun x => if x ∈ ids then some (.pointer (some ⟨A x, 0, none⟩)) else none
structure MRep where
  ad : Int → Option Addr
  cap : Int → Nat
  mb : Nat
def isMa (b : Nat) (A : Int → Nat) (s : MS) : HP := EX fun y : MRep => pure' s.ids.Nodup (sepL [pts b 283 [.map (some y.mb)], mapF QM.encI y.mb (fM A s.ids) s.ids.length, bigS (tP A y.ad y.cap s) s.ids, bigS (rP y.ad y.cap s) s.ids])
theorem nd_ne {L M : List Int} {x : Int} (hn : L.Nodup) (hM : L.Perm (x :: M)) : ∀ y ∈ M, y ≠ x := fun y hy e => (List.nodup_cons.1 (hM.nodup_iff.1 hn)).1 (e ▸ hy)
theorem fM_yes {A : Int → Nat} {L : List Int} {x : Int} (h : x ∈ L) : fM A L x = some (.pointer (some ⟨A x, 0, none⟩)) := if_pos h
theorem fM_no {A : Int → Nat} {L : List Int} {x : Int} (h : x ∉ L) : fM A L x = none := if_neg h
theorem fil_snoc {pr : Off → Bool} {S : List Off} {k : Nat} {o : Off} (ho : S[k]? = some o) : (S.take (k + 1)).filter pr = (S.take k).filter pr ++ if pr o = true then [o] else [] := by
 rw [List.take_add_one, ho, Option.toList, List.filter_append]
 split
 ·rename_i h; rw [List.filter_cons_of_pos h]; rfl
 ·rename_i h; rw [List.filter_cons_of_neg h]; rfl
theorem gone_snoc {pr : Off → Bool} {S : List Off} {k : Nat} {o : Off} (ho : S[k]? = some o) : goneO (S.take (k + 1)) pr = goneO (S.take k) pr ++ if pr o = true then [o.fr] else [] := by
 rw [goneO, fil_snoc ho, List.map_append, goneO]; split <;> rfl
theorem gone_len (S : List Off) (pr : Off → Bool) : (goneO S pr).length ≤ S.length := by rw [goneO, List.length_map]; exact List.length_filter_le _ _
theorem mfree_ok (A : Int → Nat) (ad : Int → Option Addr) (cap : Int → Nat) (s : MS) (L : List Int) (x : Int) (hx : x ∈ L) (hn : L.Nodup) : FSpec Tryz.prog 258 [.pointer (some ⟨(A x), 0, none⟩)] noRd [bigS (tP A ad cap s) L] (fun _ : Unit => .tuple #[]) (fun _ => True) (fun _ => [bigS (tP A ad cap (frS s x)) L]) := by
 refine fI Tryz.func258 Tryz.ntmps258 ?_
 intro F _
 refine zz [39] ?_
 obtain ⟨M, hM⟩ := perm_mem hx
 have hne := nd_ne hn hM
 refine TC.weak (ent_openB 0 rfl hM) ?_
 refine zz [1,6,6,13,47,21,105,13,78,21,105] ?_
 refine TL.nil ?_
 exact Ret.n () [] trivial rfl trivial (ent_closeB 0 0 x rfl rfl (by dsimp only [tP, frS, wtS, pushS, rowS, cutMS, clS, stS]; simp only [updI_same]; rfl) (fun y hy => by have h := hne y hy; dsimp only [tP, frS, wtS, pushS, rowS, cutMS, clS, stS]; simp only [updI_ne h]) hM.symm (ent_take 0 rfl (ent_nil _)))
set_option maxHeartbeats 1000000 in
theorem mcut_ok (A : Int → Nat) (ad : Int → Option Addr) (cap : Int → Nat) (s : MS) (L : List Int) (x : Int) (hx : x ∈ L) (hn : L.Nodup) (fc : FuncId) (lb : List Value) (pr : Off → Bool) (rdc : HP → Prop) (hclo : ∀ o, FSpec Tryz.prog fc ([.agg (ofC o).toArray] ++ lb) rdc [] (fun _ : Unit => .bool (pr o)) (fun _ => True) (fun _ => [])) (hm : ∀ (Bs : List HP) F, rdc F → rdc (sepL (Bs ++ [F]))) (hl : (s.row x).length ≤ 1000000) : FSpec Tryz.prog 256 [.pointer (some ⟨(A x), 0, none⟩), .func (.func fc) #[] lb.toArray] rdc [bigS (tP A ad cap s) L, bigS (rP ad cap s) L] (fun y : (Option Addr × Nat) × (Option Addr × Nat) => .slice y.1.1 (goneO (s.row x) pr).length y.1.2) (fun _ => True) (fun y => [slc 3 1 y.1.1 (goneO (s.row x) pr).length y.1.2 (ints (goneO (s.row x) pr)), bigS (tP A (updI ad x y.2.1) (updI cap x y.2.2) (cutMS s x pr)) L, bigS (rP (updI ad x y.2.1) (updI cap x y.2.2) (cutMS s x pr)) L]) := by
 refine fI Tryz.func256 Tryz.ntmps256 ?_
 intro F hFc
 refine zz [44] ?_
 obtain ⟨M, hM⟩ := perm_mem hx
 have hne := nd_ne hn hM
 refine TC.weak (ent_openB 0 rfl hM) ?_
 refine TC.weak (ent_openB 2 rfl hM) ?_
 have hol := ofsC_length (s.row x)
 refine zz [0,1,35,2,0,1,35,2,0,1,35,2,0,0,1,6,13,14,12] ?_
 refine q rfl rfl (len 391 3 rfl rfl) ?_
 refine zz [3,2,17] ?_
 refine TC.loop (ι := Nat × (Option Addr × Nat) × (Option Addr × Nat)) (fun u => u.1 ≤ (s.row x).length) (fun u => [(0, .pointer (some ⟨(A x), 0, none⟩)), (1, .func (.func fc) #[] lb.toArray), (5, .slice u.2.1.1 (goneO ((s.row x).take u.1) pr).length u.2.1.2), (6, .slice u.2.2.1 (((s.row x).take u.1).filter (notO pr)).length u.2.2.2), (12, .slice (ad x) (s.row x).length (cap x)), (13, .int .i64 (s.row x).length), (14, .int .i64 ((u.1 : Nat) : Int))]) (fun u => sepL [slc 3 1 u.2.1.1 (goneO ((s.row x).take u.1) pr).length u.2.1.2 (ints (goneO ((s.row x).take u.1) pr)), slc 391 3 u.2.2.1 (((s.row x).take u.1).filter (notO pr)).length u.2.2.2 (ofsC (((s.row x).take u.1).filter (notO pr))), rP ad cap s x, bigS (rP ad cap s) M, tP A ad cap s x, bigS (tP A ad cap s) M, F]) (fun u => (s.row x).length - u.1) ⟨0, (none, 0), (none, 0)⟩ (Nat.zero_le _) ⟨rfl, rfl, rfl, rfl, rfl, rfl, rfl, trivial⟩ ((slc_nil 3 1 _).trans ((slc_nil 391 3 _).trans (ent_take 1 rfl (ent_take 0 rfl entS)))) ?_
 rintro ⟨k, ⟨ga, gc⟩, ⟨ka, kc⟩⟩ hk ρ0
 dsimp only [updL] at hk ⊢
 refine zz [0,1,38,2,0] ?_
 first | refine TC.condD rfl (fun hlt => ?_) (fun hlt => ?_) | refine TC.cond rfl (fun hlt => ?_) (fun hlt => ?_)
 ·have hlt2 : k < (s.row x).length := by omega
  obtain ⟨o, ho⟩ : ∃ o, (s.row x)[k]? = some o := ⟨(s.row x)[k], List.getElem?_eq_getElem hlt2⟩
  have hpos : 0 < (ofsC (s.row x)).length := by omega
  have hg1 := gone_len (s.row x |>.take k) pr
  have hk1 : (((s.row x).take k).filter (notO pr)).length ≤ ((s.row x).take k).length := List.length_filter_le _ _
  have htl : ((s.row x).take k).length ≤ k := by rw [List.length_take]; omega
  have hgs := gone_snoc (pr := pr) ho
  have hks := fil_snoc (pr := notO pr) ho
  have hgi := ints_length (goneO ((s.row x).take k) pr)
  have hki := ofsC_length (((s.row x).take k).filter (notO pr))
  refine zz [7,0,17,0,1] ?_
  first | refine q rfl rfl (ixS 391 3 rfl rfl rfl (by omega) asm0) ?_ | refine q rfl rfl (ixJ 391 3 rfl rfl rfl (by omega) (by omega) asm0) ?_ | refine q rfl rfl (ix 391 3 rfl rfl rfl (by omega) (by omega) rfl) ?_
  first | refine q rfl rfl (ldN (vs := [_, _, _]) 3 rfl rfl rfl rfl) ?_ | refine q rfl rfl (ldSN (vs := [_, _, _]) 3 rfl rfl (flat_get_rec ofC_sz ho) rfl (by decide)) ?_ | refine q rfl rfl (ldSN (vs := [_, _, _]) 3 rfl rfl rfl rfl (by decide)) ?_
  refine e rfl ?_
  refine al (l := [.int _ _, .int _ _, .bool _]) rfl rfl ?_
  intro b4
  refine zz [21,48,2,0,1] ?_
  refine q rfl rfl (mv (v := .func (.func fc) #[] lb.toArray) rfl) ?_
  first | refine q rfl rfl (ldN (vs := [_, _, _]) 3 rfl rfl rfl rfl) ?_ | refine q rfl rfl (ldSN (vs := [_, _, _]) 3 rfl rfl (flat_get_rec ofC_sz ho) rfl (by decide)) ?_ | refine q rfl rfl (ldSN (vs := [_, _, _]) 3 rfl rfl rfl rfl (by decide)) ?_
  refine e rfl ?_
  refine clC (hclo o) rfl rfl (picked_nil _) (hm [_, _, _, _, _, _, _] _ hFc) ?_
  intro _ _
  refine zz [53,2] ?_
  cases hpr : pr o with
  | true => ?_
  | false => ?_
  ·rw [hpr, if_pos rfl] at hgs
   rw [show notO pr o = false by rw [notO, hpr]; rfl, if_neg (by decide), List.append_nil] at hks
   refine zz [40,1,29,14] ?_
   first | refine q rfl rfl (ld rfl rfl rfl) ?_ | refine q rfl rfl (ldS rfl rfl (flat_get_rec ofC_sz ho)) ?_ | refine q rfl rfl (ldS rfl rfl rfl) ?_
   refine zz [5,72] ?_
   intro b5
   refine e rfl ?_
   refine ap 8 rfl rfl rfl rfl rfl (Nat.le_of_ble_eq_true rfl) (show _ = ints [o.fr] from rfl) rfl (by omega) (by simp only [maxLen]; omega) ?_
   intro ad2 cap2
   refine zz [35,63,1,36,3,2] ?_
   exact ⟨rfl, ⟨k + 1, (ad2, cap2), (ka, kc)⟩, (by dsimp only; omega), (by dsimp only; omega), ⟨rfl, rfl, congrArg (fun n => Value.slice _ n _) (by dsimp only; rw [hgs, List.length_append]; rfl), congrArg (fun n => Value.slice _ n _) (by dsimp only; rw [hks]), rfl, rfl, rfl, trivial⟩, (ent_takeE 0 rfl (by dsimp only; rw [hgs, List.length_append, ints_app1]; rfl) (ent_takeE 2 rfl (by dsimp only; rw [hks]) entS))⟩
  ·rw [hpr, if_neg (by decide), List.append_nil] at hgs
   rw [show notO pr o = true by rw [notO, hpr]; rfl, if_pos rfl] at hks
   refine zz [10,1,29] ?_
   first | refine q rfl rfl (ldN (vs := [_, _, _]) 3 rfl rfl rfl rfl) ?_ | refine q rfl rfl (ldSN (vs := [_, _, _]) 3 rfl rfl (flat_get_rec ofC_sz ho) rfl (by decide)) ?_ | refine q rfl rfl (ldSN (vs := [_, _, _]) 3 rfl rfl rfl rfl (by decide)) ?_
   refine e rfl ?_
   refine bs (cs := [.int _ _, .int _ _, .bool _]) rfl ?_
   intro b6
   refine e rfl ?_
   refine ap 24 rfl rfl rfl rfl rfl (Nat.le_of_ble_eq_true rfl) (show _ = ofsC [o] from rfl) rfl (by omega) (by simp only [maxLen]; omega) ?_
   intro ad3 cap3
   refine zz [35,63,1,36,3,2] ?_
   exact ⟨rfl, ⟨k + 1, (ga, gc), (ad3, cap3)⟩, (by dsimp only; omega), (by dsimp only; omega), ⟨rfl, rfl, congrArg (fun n => Value.slice _ n _) (by dsimp only; rw [hgs]), congrArg (fun n => Value.slice _ n _) (by dsimp only; rw [hks, List.length_append]; rfl), rfl, rfl, rfl, trivial⟩, (ent_takeE 3 rfl (by dsimp only; rw [hgs]) (ent_takeE 0 rfl (by dsimp only; rw [hks, List.length_append, ofs_app]; rfl) entS))⟩
 ·obtain rfl : k = (s.row x).length := by omega
  rw [List.take_length]
  refine zz [50,0,1,6,29,13,14,21,110,2,0,1,29,35,2,11] ?_
  exact Ret.i ⟨(ga, gc), (ka, kc)⟩ [_] ⟨rfl, trivial⟩ rfl trivial (ent_take 1 rfl (ent_closeB 0 3 x rfl rfl (by dsimp only [tP, frS, wtS, pushS, rowS, cutMS, clS, stS]; simp only [updI_same]; rfl) (fun y hy => by have h := hne y hy; dsimp only [tP, frS, wtS, pushS, rowS, cutMS, clS, stS]; simp only [updI_ne h]) hM.symm (ent_closeB 0 1 x rfl rfl (by dsimp only [rP, frS, wtS, pushS, rowS, cutMS, clS, stS]; simp only [updI_same]) (fun y hy => by have h := hne y hy; dsimp only [rP, frS, wtS, pushS, rowS, cutMS, clS, stS]; simp only [updI_ne h]) hM.symm (ent_take 1 rfl (ent_nil _)))))
theorem mat_yes (b mb n : Nat) (A : Int → Nat) (ids : List Int) (id : Int) (h : id ∈ ids) : FSpec Tryz.prog 139 [.pointer (some ⟨b, 0, none⟩), .int .i64 id] noRd [pts b 283 [.map (some mb)], mapF QM.encI mb (fM A ids) n] (fun _ : Unit => .tuple #[.pointer (some ⟨(A id), 0, none⟩), .int .i64 0]) (fun _ => True) (fun _ => [pts b 283 [.map (some mb)], mapF QM.encI mb (fM A ids) n]) := by
 refine fI Tryz.func139 Tryz.ntmps139 ?_
 intro F _
 refine zz [44,0,1,87,87,2,0,0,1,71,34,2,10,7,0,1,71,13,14,12,71,197] ?_
 rw [fM_yes h]
 refine zz [24,2,0,0,1,6,34,2,10,7,0,1,6,24,4,2,11] ?_
 exact zc5
theorem mat_no (b mb n : Nat) (A : Int → Nat) (ids : List Int) (id : Int) (h : id ∉ ids) : FSpec Tryz.prog 139 [.pointer (some ⟨b, 0, none⟩), .int .i64 id] noRd [pts b 283 [.map (some mb)], mapF QM.encI mb (fM A ids) n] (fun _ : Unit => .tuple #[.pointer none, .int .i64 6]) (fun _ => True) (fun _ => [pts b 283 [.map (some mb)], mapF QM.encI mb (fM A ids) n]) := by
 refine fI Tryz.func139 Tryz.ntmps139 ?_
 intro F _
 refine zz [44,0,1,87,87,2,0,0,1,71,34,2,10,7,0,1,71,13,14,12,71,197] ?_
 rw [fM_no h]
 refine zz [24,2,0,0,1,6,34,2,40,0,1,24,4,2,51] ?_
 exact zc5
theorem Rd_big {α : Type} {f : α → HP} {b : Nat} {o : Obj} : ∀ {L : List α} {x : α}, x ∈ L → Rd (f x) b o → Rd (bigS f L) b o
 | a :: L, x, h, r => by
  rcases List.mem_cons.1 h with rfl | h
  ·exact Rd_here r
  ·exact Rd_next (Rd_big h r)
theorem tP_rd {A : Int → Nat} {ad : Int → Option Addr} {cap : Int → Nat} {s : MS} {L : List Int} {x : Int} (h : x ∈ L) : RdI (bigS (tP A ad cap s) L) (A x) (.cells (List.toArray [.slice (ad x) (s.row x).length (cap x), .int .i64 (s.st x), .int .i64 (s.cl x), .int .i64 (s.pn x)]) 298 (0, 0)) := ⟨Rd_big h (Rd_pts _ _ _)⟩
def stR (s : MS) (id : Int) : Int := if id ∈ s.ids then s.st id else -1
def joinS (s : MS) (x : Int) : MS := if x ∈ s.ids ∨ x < 0 then s else ⟨s.ids ++ [x], updI s.st x 0, updI s.cl x (-1), updI s.pn x (-1), updI s.row x []⟩
def joinL (s : MS) (xs : List Int) : MS := xs.foldl joinS s
def offS (s : MS) (to : Int) (o : Off) : MS × Int :=
  if to ∉ s.ids ∨ o.fr ∉ s.ids then (s, 6) else if o.fr = to then (s, 1) else if s.st o.fr ≠ 0 then (s, 12) else (pushS (wtS s o.fr 1 to) to o, 0)
def s0 : MS := ⟨[], fun _ => 0, fun _ => 0, fun _ => 0, fun _ => []⟩
theorem join_nd {s : MS} (h : s.ids.Nodup) (x : Int) : (joinS s x).ids.Nodup := by
 rw [joinS]; split
 ·exact h
 ·rename_i hx
  exact List.nodup_append.2 ⟨h, by simp, fun a ha b hb e => hx (.inl (by rw [List.mem_singleton] at hb; rw [← hb, ← e]; exact ha))⟩
theorem joinL_snoc (s : MS) (xs : List Int) {k : Nat} {x : Int} (h : xs[k]? = some x) : joinL s (xs.take (k + 1)) = joinS (joinL s (xs.take k)) x := by
 rw [List.take_add_one, h, Option.toList, joinL, List.foldl_append, joinL]; rfl
theorem join_len (s : MS) (x : Int) : s.ids.length ≤ (joinS s x).ids.length ∧ (joinS s x).ids.length ≤ s.ids.length + 1 := by
 rw [joinS]; split
 ·omega
 ·rw [List.length_append, List.length_singleton]; omega
theorem joinL_len (xs : List Int) : ∀ s : MS, s.ids.length ≤ (joinL s xs).ids.length ∧ (joinL s xs).ids.length ≤ s.ids.length + xs.length := by
 induction xs with
 | nil => intro s; exact ⟨Nat.le_refl _, Nat.le_refl _⟩
 | cons x xs ih => intro s; have h1 := join_len s x; have h2 := ih (joinS s x); rw [joinL] at h2 ⊢; rw [List.foldl_cons, List.length_cons]; omega
theorem fM_add (A : Int → Nat) (ids : List Int) (x : Int) (b : Nat) : fM (updI A x b) (ids ++ [x]) = updF (fM A ids) x (.pointer (some ⟨b, 0, none⟩)) := by
 funext y
 simp only [fM, updF]
 by_cases e : y = x
 ·rw [if_pos e, if_pos (by simp [e]), e, updI_same]
 ·rw [if_neg e, updI_ne e]
  by_cases h : y ∈ ids
  ·rw [if_pos h, if_pos (by simp [h])]
  ·rw [if_neg h, if_neg (by simp [h, e])]
theorem mnew_ent (b mb : Nat) (F : HP) (A : Int → Nat) : ent (sepL [pts b 283 [.map (some mb)], mapF QM.encI mb (fun _ => none) 0, F]) (sepL [isMa b A s0, F]) := by
 have hf : fM A [] = fun _ => none := funext fun _ => if_neg (by simp)
 refine (bigS_nil (f := tP A (fun _ => none) (fun _ => 0) s0) _).trans ?_
 refine (bigS_nil (f := rP (fun _ => none) (fun _ => 0) s0) _).trans ?_
 refine ent_close (⟨fun _ => none, fun _ => 0, mb⟩ : MRep) List.nodup_nil ?_
 exact ent_take 2 rfl (ent_takeE 2 rfl (by dsimp only [s0]; rw [hf]; rfl) (ent_take 1 rfl (ent_take 0 rfl (ent_take 0 rfl (ent_nil _)))))
theorem mnew_ok (A : Int → Nat) : FSpec Tryz.prog 90 [] noRd [] (fun b : Nat => .pointer (some ⟨b, 0, none⟩)) (fun _ => True) (fun b => [isMa b A s0]) := by
 refine fI Tryz.func90 Tryz.ntmps90 ?_
 intro F _
 refine zz [37,0,1,24,2,0,1,5] ?_
 refine mkF QM.encI ?_
 intro b1
 first | refine q rfl rfl (bld (cs := [.map _]) rfl) ?_ | refine q rfl rfl (bld (cs := [_]) rfl) ?_
 refine e rfl ?_
 refine bx (v := .agg #[_]) (l := [.map _]) rfl rfl ?_
 intro b2
 refine zz [24,2,11] ?_
 exact Ret.i b2 [_] ⟨rfl, trivial⟩ rfl trivial (mnew_ent b2 b1 F A)
theorem mstate_ok (b : Nat) (A : Int → Nat) (s : MS) (id : Int) : FSpec Tryz.prog 217 [.pointer (some ⟨b, 0, none⟩), .int .i64 id] noRd [isMa b A s] (fun _ : Unit => .int .i64 (stR s id)) (fun _ => True) (fun _ => [isMa b A s]) := by
 refine fI Tryz.func217 Tryz.ntmps217 ?_
 intro F _
 refine zz [39] ?_
 refine TC.open 0 rfl (fun x0 hx0 => ?_)
 obtain ⟨ad, cap, mb⟩ := x0
 have hN := hx0
 refine zz [95] ?_
 dsimp only at hN ⊢
 by_cases h : id ∈ s.ids
 ·rw [show stR s id = s.st id from if_pos h]
  haveI := tP_rd (A := A) (ad := ad) (cap := cap) (s := s) (x := id) h
  refine zz [0,1,4,2,0,1,6,3,5] ?_
  refine cl (mat_yes b mb s.ids.length A s.ids id h) rfl PkL.p trivial ?_
  intro _ _
  refine zz [57,26,79,15,24,4,2,0,0,1,3,23,2,10,7,0,1,6,13,47,12,4,2,11] ?_
  exact Ret.i () [_] ⟨rfl, trivial⟩ rfl trivial (ent_close ⟨ad, cap, mb⟩ hN (ent_take 0 rfl (ent_take 0 rfl (ent_take 0 rfl (ent_take 0 rfl (ent_take 0 rfl (ent_nil _)))))))
 ·rw [show stR s id = -1 from if_neg h]
  refine zz [0,1,4,2,0,1,6,3,5] ?_
  refine cl (mat_no b mb s.ids.length A s.ids id h) rfl PkL.p trivial ?_
  intro _ _
  refine zz [57,26,79,15,24,4,2,0,0,1,3,23,2,40,0,1,4,2,51] ?_
  exact Ret.i () [_] ⟨rfl, trivial⟩ rfl trivial (ent_close ⟨ad, cap, mb⟩ hN (ent_take 0 rfl (ent_take 0 rfl (ent_take 0 rfl (ent_take 0 rfl (ent_take 0 rfl (ent_nil _)))))))
theorem mjoin_ok (b : Nat) (A : Int → Nat) (s : MS) (ax : Option Addr) (cx : Nat) (xs : List Int) (hl : xs.length ≤ 1000000) (hl2 : s.ids.length ≤ 1000000) : FSpec Tryz.prog 99 [.pointer (some ⟨b, 0, none⟩), .slice ax xs.length cx] (fun F => ∃ E, RdS F E ax (ints xs)) [isMa b A s] (fun _ : Int → Nat => .int .i64 ((joinL s xs).ids.length - s.ids.length : Int)) (fun _ => True) (fun A2 => [isMa b A2 (joinL s xs)]) := by
 refine fI Tryz.func99 Tryz.ntmps99 ?_
 intro F ⟨E, hF⟩
 refine zz [39] ?_
 haveI : RdSI F ax E (ints xs) := ⟨hF⟩
 have hxl := ints_length xs
 refine TC.open 0 rfl (fun x0 hx0 => ?_)
 obtain ⟨ad, cap, mb⟩ := x0
 have hN := hx0
 refine zz [95] ?_
 dsimp only at hN ⊢
 refine TC.weak (B := sepL [isMa b A s, F]) (ent_close ⟨ad, cap, mb⟩ hN (ent_take 0 rfl (ent_take 0 rfl (ent_take 0 rfl (ent_take 0 rfl (ent_take 0 rfl (ent_nil _))))))) ?_
 clear hN
 refine zz [0,1,4,2,0,1,4,2,0,0,1,29,91,3,2,17] ?_
 refine TC.loop (ι := Nat × (Int → Nat)) (fun u => u.1 ≤ xs.length) (fun u => [(0, .pointer (some ⟨b, 0, none⟩)), (5, .int .i64 ((joinL s (xs.take u.1)).ids.length - s.ids.length : Int)), (10, .slice ax xs.length cx), (11, .int .i64 xs.length), (12, .int .i64 ((u.1 : Nat) : Int))]) (fun u => sepL [isMa b u.2 (joinL s (xs.take u.1)), F]) (fun u => xs.length - u.1) ⟨0, A⟩ (Nat.zero_le _) ⟨rfl, congrArg (Value.int .i64) (Int.sub_self _).symm, rfl, rfl, rfl, trivial⟩ (ent_take 0 rfl (ent_take 0 rfl (ent_nil _))) ?_
 rintro ⟨k, A⟩ hk ρ0
 dsimp only [updL] at hk ⊢
 refine zz [0,1,38,2,0] ?_
 first | refine TC.condD rfl (fun hlt => ?_) (fun hlt => ?_) | refine TC.cond rfl (fun hlt => ?_) (fun hlt => ?_)
 ·have hlt2 : k < xs.length := by omega
  obtain ⟨x, hx⟩ : ∃ x, xs[k]? = some x := ⟨xs[k], List.getElem?_eq_getElem hlt2⟩
  have hpos : 0 < (ints xs).length := by omega
  have hsn := joinL_snoc s xs hx
  have hjl := joinL_len (xs.take k) s
  have hjt : (xs.take k).length ≤ k := by rw [List.length_take]; omega
  generalize (joinL s (xs.take k)) = Z at hsn hjl ⊢
  refine TC.open 0 rfl (fun x0 hx0 => ?_)
  obtain ⟨ad, cap, mb⟩ := x0
  have hN := hx0
  refine zz [95] ?_
  dsimp only at hN ⊢
  by_cases h : x ∈ Z.ids
  ·rw [joinS, if_pos (.inl h)] at hsn
   refine zz [7,0,17,0,1,81] ?_
   first | refine q rfl rfl (ld rfl rfl rfl) ?_ | refine q rfl rfl (ldS rfl rfl (ints_get hx)) ?_ | refine q rfl rfl (ldS rfl rfl rfl) ?_
   refine zz [4,2,0,1,6,3,5] ?_
   refine cl (mat_yes b mb Z.ids.length A Z.ids x h) rfl PkL.p trivial ?_
   intro _ _
   refine zz [57,26,79,15,24,4,2,0,1,3,30,20] ?_
   refine TL.known 24 rfl (c := false) (by decide) ?_
   refine zz [22,22,19,2,10,42,1,36,3,2] ?_
   exact ⟨rfl, ⟨k + 1, A⟩, (by dsimp only; omega), (by dsimp only; omega), ⟨rfl, congrArg (fun z : MS => Value.int .i64 ((z.ids.length : Int) - s.ids.length)) hsn.symm, rfl, rfl, rfl, trivial⟩, (by dsimp only; rw [hsn]; exact (ent_close ⟨ad, cap, mb⟩ hN (ent_take 0 rfl (ent_take 0 rfl (ent_take 0 rfl (ent_take 0 rfl (ent_take 0 rfl (ent_nil _))))))))⟩
  ·refine zz [7,0,17,0,1,81] ?_
   first | refine q rfl rfl (ld rfl rfl rfl) ?_ | refine q rfl rfl (ldS rfl rfl (ints_get hx)) ?_ | refine q rfl rfl (ldS rfl rfl rfl) ?_
   refine zz [4,2,0,1,6,3,5] ?_
   refine cl (mat_no b mb Z.ids.length A Z.ids x h) rfl PkL.p trivial ?_
   intro _ _
   refine zz [57,26,79,15,24,4,2,0,1,3,30,20] ?_
   refine TL.known 24 rfl (c := true) (by decide) ?_
   refine zz [32,139,19,2] ?_
   first | refine TC.condD rfl (fun hge => ?_) (fun hge => ?_) | refine TC.cond rfl (fun hge => ?_) (fun hge => ?_)
   ·rw [joinS, if_neg (fun h2 => h2.elim h (by omega))] at hsn
    have hfx := fM_no (A := A) h
    have hN2 : (Z.ids ++ [x]).Nodup := List.nodup_append.2 ⟨hN, by simp, fun a ha b hb e2 => h (by rw [List.mem_singleton] at hb; rw [← hb, ← e2]; exact ha)⟩
    refine zz [0,1,6,13,14] ?_
    first | refine q rfl rfl (ld rfl rfl rfl) ?_ | refine q rfl rfl (ldS rfl rfl (ints_get hx)) ?_ | refine q rfl rfl (ldS rfl rfl rfl) ?_
    refine zz [3] ?_
    first | refine q rfl rfl (bld (cs := [.slice _ _ _, .int _ _, .int _ _, .int _ _]) rfl) ?_ | refine q rfl rfl (bld (cs := [_, _, _, _]) rfl) ?_
    refine e rfl ?_
    refine bx (v := .agg #[_, _, _, _]) (l := [.slice _ _ _, .int _ _, .int _ _, .int _ _]) rfl rfl ?_
    intro b5
    refine e0 ?_
    refine muF 3 291 rfl (KL.int rfl) rfl rfl rfl ?_
    refine zz [2,1,3,36,4,63,1,36,3,2] ?_
    have hne : ∀ y ∈ Z.ids, y ≠ x := fun y hy e2 => h (e2 ▸ hy)
    have hP2 : (x :: Z.ids).Perm (Z.ids ++ [x]) := (List.perm_append_singleton _ _).symm
    have hcN : ∀ y ∈ Z.ids, tP A ad cap Z y = tP (updI A x b5) (updI ad x none) (updI cap x 0) (⟨Z.ids ++ [x], updI Z.st x 0, updI Z.cl x (-1), updI Z.pn x (-1), updI Z.row x []⟩ : MS) y := fun y hy => by
     have h2 := hne y hy
     dsimp only [tP]; simp only [updI_ne h2]
    have hcK : ∀ y ∈ Z.ids, rP ad cap Z y = rP (updI ad x none) (updI cap x 0) (⟨Z.ids ++ [x], updI Z.st x 0, updI Z.cl x (-1), updI Z.pn x (-1), updI Z.row x []⟩ : MS) y := fun y hy => by
     have h2 := hne y hy
     dsimp only [rP]; simp only [updI_ne h2]
    exact ⟨rfl, ⟨k + 1, updI A x b5⟩, (by dsimp only; omega), (by dsimp only; omega), ⟨rfl, congrArg (Value.int .i64) (by dsimp only; rw [hsn, List.length_append, List.length_singleton]; omega), rfl, rfl, rfl, trivial⟩, (by dsimp only; rw [hsn]; exact (slc_nil 391 3 _).trans (ent_close ⟨updI ad x none, updI cap x 0, mb⟩ hN2 (ent_take 3 rfl (ent_takeE 1 rfl (by dsimp only; rw [fM_add, hfx, List.length_append]; rfl) (ent_closeB 1 1 x rfl rfl (by dsimp only [tP]; simp only [updI_same]; rfl) hcN hP2 (ent_closeB 0 0 x rfl rfl (by dsimp only [rP]; simp only [updI_same]; rfl) hcK hP2 (ent_take 0 rfl (ent_nil _))))))))⟩
   ·rw [joinS, if_pos (.inr (by omega))] at hsn
    refine zz [42,1,36,3,2] ?_
    exact ⟨rfl, ⟨k + 1, A⟩, (by dsimp only; omega), (by dsimp only; omega), ⟨rfl, congrArg (fun z : MS => Value.int .i64 ((z.ids.length : Int) - s.ids.length)) hsn.symm, rfl, rfl, rfl, trivial⟩, (by dsimp only; rw [hsn]; exact (ent_close ⟨ad, cap, mb⟩ hN (ent_take 0 rfl (ent_take 0 rfl (ent_take 0 rfl (ent_take 0 rfl (ent_take 0 rfl (ent_nil _))))))))⟩
 ·obtain rfl : k = xs.length := by omega
  rw [List.take_length]
  refine zz [50,0,1,3,4,2,11] ?_
  exact Ret.i A [_] ⟨rfl, trivial⟩ rfl trivial (ent_take 0 rfl (ent_take 0 rfl (ent_nil _)))
theorem nodup_sub_len {l m : List Int} (h : l.Nodup) (hs : ∀ x ∈ l, x ∈ m) : l.length ≤ m.length := by
 induction l generalizing m with
 | nil => simp
 | cons a l ih =>
  obtain ⟨h1, h2⟩ := List.nodup_cons.1 h
  obtain ⟨s, t, rfl⟩ := List.append_of_mem (hs a (by simp))
  have := ih (m := s ++ t) h2 (fun x hx => by
   have h3 := hs x (by simp [hx])
   have h4 : x ≠ a := fun e => h1 (e ▸ hx)
   simp at h3 ⊢
   rcases h3 with h3 | h3 | h3
   ·exact .inl h3
   ·exact absurd h3 h4
   ·exact .inr h3)
  simp at this ⊢; omega
structure WM (s : MS) : Prop where
  nd : s.ids.Nodup
  ge : ∀ x ∈ s.ids, 0 ≤ x
  rg : ∀ x ∈ s.ids, s.st x = 0 ∨ s.st x = 1 ∨ s.st x = 2 ∨ s.st x = 3
  row : ∀ x ∈ s.ids, ∀ o ∈ s.row x, o.fr ∈ s.ids ∧ o.fr ≠ x ∧ s.st o.fr = 1 ∧ s.pn o.fr = x
  nr : ∀ x ∈ s.ids, ((s.row x).map (·.fr)).Nodup
  snd : ∀ x ∈ s.ids, s.st x = 1 → s.pn x ∈ s.ids ∧ ∃ o ∈ s.row (s.pn x), o.fr = x
  cal : ∀ x ∈ s.ids, s.cl x ≠ -1 → s.cl x ∈ s.ids ∧ s.cl x ≠ x ∧ s.st (s.cl x) = 3 ∧ s.pn (s.cl x) = x
  ask : ∀ x ∈ s.ids, s.st x = 3 → s.pn x ∈ s.ids ∧ s.cl (s.pn x) = x
  idle : ∀ x ∈ s.ids, s.st x ≠ 1 → s.st x ≠ 3 → s.pn x = -1
theorem WM.zero : WM s0 := ⟨List.nodup_nil, fun _ h => (List.not_mem_nil h).elim, fun _ h => (List.not_mem_nil h).elim, fun _ h => (List.not_mem_nil h).elim, fun _ h => (List.not_mem_nil h).elim, fun _ h => (List.not_mem_nil h).elim, fun _ h => (List.not_mem_nil h).elim, fun _ h => (List.not_mem_nil h).elim, fun _ h => (List.not_mem_nil h).elim⟩
theorem WM.ext {s t : MS} (h : WM s) (hi : t.ids = s.ids) (h1 : ∀ x ∈ s.ids, t.st x = s.st x ∧ t.cl x = s.cl x ∧ t.pn x = s.pn x ∧ t.row x = s.row x) : WM t where
 nd := by rw [hi]; exact h.nd
 ge := by rw [hi]; exact h.ge
 rg := fun x hx => by rw [hi] at hx; rw [(h1 x hx).1]; exact h.rg x hx
 row := fun x hx o ho => by
  rw [hi] at hx; rw [(h1 x hx).2.2.2] at ho
  have := h.row x hx o ho
  rw [hi, (h1 _ this.1).1, (h1 _ this.1).2.2.1]; exact this
 nr := fun x hx => by rw [hi] at hx; rw [(h1 x hx).2.2.2]; exact h.nr x hx
 snd := fun x hx hs => by
  rw [hi] at hx; rw [(h1 x hx).1] at hs
  have := h.snd x hx hs
  rw [hi, (h1 x hx).2.2.1, (h1 _ this.1).2.2.2]; exact this
 cal := fun x hx hc => by
  rw [hi] at hx; rw [(h1 x hx).2.1] at hc
  have := h.cal x hx hc
  rw [hi, (h1 x hx).2.1, (h1 _ this.1).1, (h1 _ this.1).2.2.1]; exact this
 ask := fun x hx hs => by
  rw [hi] at hx; rw [(h1 x hx).1] at hs
  have := h.ask x hx hs
  rw [hi, (h1 x hx).2.2.1, (h1 _ this.1).2.1]; exact this
 idle := fun x hx a b => by
  rw [hi] at hx; rw [(h1 x hx).1] at a b
  rw [(h1 x hx).2.2.1]; exact h.idle x hx a b
def frL (s : MS) (Y : List Int) : MS := { s with st := fun x => if x ∈ Y then 0 else s.st x, pn := fun x => if x ∈ Y then -1 else s.pn x }
theorem foldl_fr (Y : List Int) : ∀ s : MS, Y.foldl frS s = frL s Y := by
 induction Y with
 | nil => intro s; simp [frL]
 | cons y Y ih =>
  intro s
  rw [List.foldl_cons, ih, frL, frL]
  simp only [frS, MS.mk.injEq, true_and]
  constructor
  ·funext x
   by_cases h : x ∈ Y
   ·rw [if_pos h, if_pos (by simp [h])]
   ·rw [if_neg h]
    by_cases e : x = y
    ·rw [if_pos (by simp [e]), e, updI_same]
    ·rw [if_neg (by simp [e, h]), updI_ne e]
  ·constructor
   ·funext x
    by_cases h : x ∈ Y
    ·rw [if_pos h, if_pos (by simp [h])]
    ·rw [if_neg h]
     by_cases e : x = y
     ·rw [if_pos (by simp [e]), e, updI_same]
     ·rw [if_neg (by simp [e, h]), updI_ne e]
   ·trivial
def unL (s : MS) (Y : List Int) : MS := { frL s Y with row := fun x => (s.row x).filter fun o => decide (o.fr ∉ Y) }
theorem WM.un {s : MS} (h : WM s) (Y : List Int) (hY : ∀ y ∈ Y, y ∈ s.ids ∧ s.st y = 1) : WM (unL s Y) where
 nd := h.nd
 ge := h.ge
 rg := fun x hx => by
  show (if x ∈ Y then (0 : Int) else s.st x) = 0 ∨ _
  have := h.rg x hx
  dsimp only [unL, frL]
  split
  ·exact .inl rfl
  ·exact this
 row := fun x hx o ho => by
  obtain ⟨ho1, ho2⟩ := List.mem_filter.1 ho
  have ho2 : o.fr ∉ Y := by simpa using ho2
  have := h.row x hx o ho1
  dsimp only [unL, frL]
  rw [if_neg ho2, if_neg ho2]; exact this
 nr := fun x hx => (h.nr x hx).sublist (List.filter_sublist.map _)
 snd := fun x hx hs => by
  dsimp only [unL, frL] at hs ⊢
  by_cases hm : x ∈ Y
  ·rw [if_pos hm] at hs; cases hs
  ·rw [if_neg hm] at hs ⊢
   obtain ⟨h1, o, h2, h3⟩ := h.snd x hx hs
   exact ⟨h1, o, List.mem_filter.2 ⟨h2, by rw [h3]; simpa using hm⟩, h3⟩
 cal := fun x hx hc => by
  obtain ⟨h1, h2, h3, h4⟩ := h.cal x hx hc
  have hm : s.cl x ∉ Y := fun hm => by have := (hY _ hm).2; omega
  dsimp only [unL, frL]
  rw [if_neg hm, if_neg hm]; exact ⟨h1, h2, h3, h4⟩
 ask := fun x hx hs => by
  dsimp only [unL, frL] at hs ⊢
  by_cases hm : x ∈ Y
  ·rw [if_pos hm] at hs; cases hs
  ·rw [if_neg hm] at hs ⊢; exact h.ask x hx hs
 idle := fun x hx a b => by
  dsimp only [unL, frL] at a b ⊢
  by_cases hm : x ∈ Y
  ·rw [if_pos hm]
  ·rw [if_neg hm] at a b ⊢; exact h.idle x hx a b
theorem WM.join {s : MS} (h : WM s) (x : Int) : WM (joinS s x) := by
 rw [joinS]
 split
 ·exact h
 ·rename_i hx
  have hn : x ∉ s.ids := fun h2 => hx (.inl h2)
  have h0 : 0 ≤ x := by omega
  have ne : ∀ y ∈ s.ids, y ≠ x := fun y hy e => hn (e ▸ hy)
  have cases_ : ∀ y, y ∈ s.ids ++ [x] → y ∈ s.ids ∨ y = x := fun y hy => by simpa using hy
  have mem : ∀ y, y ∈ s.ids → y ∈ s.ids ++ [x] := fun y hy => by simp [hy]
  refine ⟨List.nodup_append.2 ⟨h.nd, by simp, fun a ha c hc e => ne a ha (by rw [e]; simpa using hc)⟩, fun y hy => ?_, fun y hy => ?_, fun y hy o ho => ?_, fun y hy => ?_, fun y hy hst => ?_, fun y hy hc => ?_, fun y hy hst => ?_, fun y hy a b => ?_⟩
  ·rcases cases_ y hy with hy | rfl
   ·exact h.ge y hy
   ·exact h0
  ·dsimp only
   rcases cases_ y hy with hy | rfl
   ·rw [updI_ne (ne y hy)]; exact h.rg y hy
   ·rw [updI_same]; exact .inl rfl
  ·dsimp only at ho ⊢
   rcases cases_ y hy with hy | rfl
   ·rw [updI_ne (ne y hy)] at ho
    have := h.row y hy o ho
    rw [updI_ne (ne _ this.1), updI_ne (ne _ this.1)]; exact ⟨mem _ this.1, this.2⟩
   ·rw [updI_same] at ho; cases ho
  ·dsimp only
   rcases cases_ y hy with hy | rfl
   ·rw [updI_ne (ne y hy)]; exact h.nr y hy
   ·rw [updI_same]; exact List.nodup_nil
  ·dsimp only at hst ⊢
   rcases cases_ y hy with hy | rfl
   ·rw [updI_ne (ne y hy)] at hst ⊢
    have := h.snd y hy hst
    rw [updI_ne (ne _ this.1)]; exact ⟨mem _ this.1, this.2⟩
   ·rw [updI_same] at hst; cases hst
  ·dsimp only at hc ⊢
   rcases cases_ y hy with hy | rfl
   ·rw [updI_ne (ne y hy)] at hc ⊢
    have := h.cal y hy hc
    rw [updI_ne (ne _ this.1), updI_ne (ne _ this.1)]; exact ⟨mem _ this.1, this.2⟩
   ·rw [updI_same] at hc; exact absurd rfl hc
  ·dsimp only at hst ⊢
   rcases cases_ y hy with hy | rfl
   ·rw [updI_ne (ne y hy)] at hst ⊢
    have := h.ask y hy hst
    rw [updI_ne (ne _ this.1)]; exact ⟨mem _ this.1, this.2⟩
   ·rw [updI_same] at hst; cases hst
  ·dsimp only at a b ⊢
   rcases cases_ y hy with hy | rfl
   ·rw [updI_ne (ne y hy)] at a b ⊢; exact h.idle y hy a b
   ·rw [updI_same]
theorem rowlen {s : MS} (h : WM s) {x : Int} (hx : x ∈ s.ids) : (s.row x).length ≤ s.ids.length := by
 have : ((s.row x).map (·.fr)).length ≤ s.ids.length := by
  refine nodup_sub_len (h.nr x hx) fun y hy => ?_
  obtain ⟨o, ho, rfl⟩ := List.mem_map.1 hy
  exact (h.row x hx o ho).1
 simpa using this
def KeysOf (f : Int → Option Value) (n : Nat) (y : List Int) : Prop := y.Nodup ∧ y.length = n ∧ ∀ x, x ∈ y ↔ (f x).isSome = true
theorem nodup_le {α : Type} {l m : List α} (h : l.Nodup) (hs : ∀ x ∈ l, x ∈ m) : l.length ≤ m.length := by
 induction l generalizing m with
 | nil => simp
 | cons a l ih =>
  obtain ⟨h1, h2⟩ := List.nodup_cons.1 h
  obtain ⟨s, t, rfl⟩ := List.append_of_mem (hs a (by simp))
  have := ih (m := s ++ t) h2 (fun x hx => by
   have h3 := hs x (by simp [hx])
   have h4 : x ≠ a := fun e => h1 (e ▸ hx)
   simp at h3 ⊢
   rcases h3 with h3 | h3 | h3
   ·exact .inl h3
   ·exact absurd h3 h4
   ·exact .inr h3)
  simp at this ⊢; omega
def mapO (b : Nat) (f : Int → Option Value) (n : Nat) : HP := EX fun y : List (Int × Value) × Array MapEntry × Nat => pure' (Fm f n y.1 ∧ y.2.1.toList.map (fun e => (e.key, e.val)) = y.1.map (fun t => (QM.encI t.1, t.2)) ∧ BoM y.2.1 y.2.2) (sepL [obj b (.map y.2.1 y.2.2)])
theorem mapF_open (b : Nat) (f : Int → Option Value) (n : Nat) : ent (mapF QM.encI b f n) (mapO b f n) := by
 rintro h ⟨m, hm, o, ⟨es, cl, rfl, h2, hb⟩, ho⟩
 obtain ⟨h', s, hx⟩ := (sep_emp : ent (obj b (.map es cl)) (sepL [obj b (.map es cl)])) h ho
 exact ⟨h', s, ⟨m, es, cl⟩, ⟨hm, h2, hb⟩, hx⟩
theorem mapF_shut {b : Nat} {f : Int → Option Value} {n : Nat} {m : List (Int × Value)} {es : Array MapEntry} {cl : Nat} (hm : Fm f n m) (h2 : es.toList.map (fun e => (e.key, e.val)) = m.map (fun t => (QM.encI t.1, t.2))) (hb : BoM es cl) : ent (obj b (.map es cl)) (mapF QM.encI b f n) :=
 ent_of_imp fun h ho => ⟨m, hm, _, ⟨es, cl, rfl, h2, hb⟩, ho⟩
theorem lk_some {m : List (Int × Value)} {x : Int} : x ∈ m.map (·.1) ↔ (lkM x m).isSome = true := by
 have := lkM_none_iff (a := x) (m := m)
 cases h : lkM x m with
 | none => rw [h] at this; simpa using this.1 rfl
 | some v =>
  rw [h] at this
  simp only [Option.isSome_some, iff_true]
  exact Decidable.not_not.1 fun h2 => by have := this.2 h2; cases this
theorem keys_done {f : Int → Option Value} {n : Nat} {m : List (Int × Value)} {es : Array MapEntry} {cl : Nat} (hm : Fm f n m) (h2 : es.toList.map (fun e => (e.key, e.val)) = m.map (fun t => (QM.encI t.1, t.2))) (hb : BoM es cl)
 {ks : List MapEntry} (k1 : ∀ e ∈ ks, e ∈ es.toList) (k2 : (ks.map (·.born)).Nodup) (k3 : ∀ e ∈ es.toList, e.born ∈ (ks.map (·.born)).toArray) : KeysOf f n (ks.map kOf) := by
 have hp := (all_keys hb k1 k2 fun e he => by simpa using k3 e he).map kOf
 rw [(isM_int h2).2] at hp
 refine ⟨hp.nodup_iff.2 hm.nd, by rw [hp.length_eq, List.length_map, hm.n], fun x => ?_⟩
 rw [hp.mem_iff, lk_some, hm.lk]
def outK (TS TI c : Nat) (xs : List Int) : HP := EX fun x : Option Addr × Nat => pure' True (sepL [pts c TS [.slice x.1 xs.length x.2], slc TI 1 x.1 xs.length x.2 (ints xs)])
theorem keys_it (cx mb n : Nat) (f : Int → Option Value) (hn : n ≤ 1000000) : IterAll Tryz.prog 325 [.pointer (some ⟨cx, 0, none⟩)] (fun x : Int => [.int .i64 x]) (fun bf _ => bf.length ≤ 1000000) [pts cx 281 [.map (some mb)], mapF QM.encI mb f n] (fun y : List Int => y) (KeysOf f n) (fun _ => [pts cx 281 [.map (some mb)], mapF QM.encI mb f n]) := by
 refine IterAll.intro (by kernel_rfl) Tryz.func325 rfl Tryz.ntmps325 (by rfl) rfl ?_
 intro lp J hY
 refine zz [44] ?_
 refine TC.weak (B := sepL [J [], pts cx 281 [.map (some mb)], mapO mb f n]) (ent_take 0 rfl (ent_take 0 rfl (ent_takeW 0 rfl (mapF_open mb f n) (ent_nil _)))) ?_
 refine TC.open 2 rfl (fun x0 hx0 => ?_)
 obtain ⟨m, es, cl⟩ := x0
 obtain ⟨hm, hk, hbo⟩ := hx0
 refine zz [44] ?_
 dsimp only at hm hk hbo ⊢
 refine zz [0,1,12,5] ?_
 refine rgM 3 291 rfl rfl ?_
 intro it
 refine zz [46,2,17] ?_
 refine TC.loop (ι := List MapEntry) (fun ks => (∀ e ∈ ks, e ∈ es.toList) ∧ (ks.map (·.born)).Nodup) (fun ks => [(0, .func (.yield lp) #[] #[]), (5, .pointer (some ⟨it, 0, none⟩))]) (fun ks => sepL [J (ks.map kOf), obj it (.mapIter (some mb) cl ((ks.map (·.born)).toArray) cl), obj mb (.map es cl), pts cx 281 [.map (some mb)]]) (fun ks => es.toList.length - ks.length) [] ⟨(fun _ h => (by cases h)), List.nodup_nil⟩ ⟨rfl, rfl, trivial⟩ entS ?_
 rintro ks ⟨hk1, hk2⟩ ρ0
 dsimp only [updL] at hk1 hk2 ⊢
 refine zz [0,1,5] ?_
 refine nxM 1 rfl rfl (Rd_next (Rd_here (Rd_obj _ _))) hbo (fun hall => ?_) (fun me he hnb => ?_)
 ·refine zz [46] ?_
  have hdone := keys_done hm hk hbo hk1 hk2 hall
  refine zz [80,2,0,10] ?_
  refine TC.exit (et (et (eb ?_)))
  exact ⟨rfl, (ks.map kOf), hdone, (ent_take 1 rfl (ent_take 2 rfl (ent_takeW 1 rfl (mapF_shut hm hk hbo) (ent_nil _))))⟩
 ·refine zz [46] ?_
  have hkey := (isM_int hk).1 me he
  have hnb : me.born ∉ ks.map (·.born) := by simpa using hnb
  have hkn : ((ks ++ [me]).map (·.born)).Nodup := by
   rw [List.map_append, List.nodup_append]
   exact ⟨hk2, by simp, fun a ha c hc e2 => by
    simp only [List.map_cons, List.map_nil, List.mem_singleton] at hc
    rw [e2, hc] at ha; exact hnb ha⟩
  have hkm : ∀ u ∈ ks ++ [me], u ∈ es.toList := fun u hu => by
   rcases List.mem_append.1 hu with h | h
   ·exact hk1 u h
   ·rw [List.mem_singleton.1 h]; exact he
  have hlt := nodup_le hkn (m := es.toList.map (·.born)) (fun x hx => by
   obtain ⟨u, hu, rfl⟩ := List.mem_map.1 hx
   exact List.mem_map.2 ⟨u, hkm u hu, rfl⟩)
  simp only [List.length_map, List.length_append, List.length_cons, List.length_nil] at hlt
  have hln : es.toList.length = n := by
   have := congrArg List.length hk
   simp only [List.length_map] at this
   rw [this, hm.n]
  have hps : ((ks.map (·.born)).toArray.push me.born) = (((ks ++ [me]).map (·.born)).toArray) := by simp
  refine zz [80,2,0,40,7,17,0,1] ?_
  refine q rfl rfl (enM me rfl (Rd_next (Rd_next (Rd_here (Rd_obj _ _)))) he hbo) ?_
  rw [hkey]
  refine zz [15,4,2,0,1,71,3,5] ?_
  refine yld 1 (hY (ks.map kOf) (kOf me) _ (by simp only [List.length_map]; omega)) rfl rfl rfl ?_
  rintro b' A' ⟨rfl, rfl⟩
  refine zz [46,64,2,10,42] ?_
  exact ⟨rfl, (ks ++ [me]), ⟨hkm, hkn⟩, (by simp only [List.length_append, List.length_singleton]; omega), ⟨rfl, rfl, trivial⟩, (ent_takeE 0 rfl (by rw [List.map_append]; rfl) (ent_takeE 0 rfl (by rw [hps]) (ent_take 0 rfl (ent_take 0 rfl (ent_nil _)))))⟩
theorem keys_ok (mb : Nat) : FSpec Tryz.prog 302 [.map (some mb)] noRd [] (fun cx : Nat => .func (.func 325) #[] #[.pointer (some ⟨cx, 0, none⟩)]) (fun _ => True) (fun cx => [pts cx 281 [.map (some mb)]]) := by
 refine fI Tryz.func302 Tryz.ntmps302 ?_
 intro F _
 refine zz [37,0,1,5] ?_
 refine bx (v := .map _) (l := [.map _]) rfl rfl ?_
 intro b1
 refine zz [87,2,0,1] ?_
 first | refine q rfl rfl (mkf (vf := []) (vc := [.pointer _]) rfl rfl) ?_ | refine q rfl rfl (mkf rfl rfl) ?_
 refine zz [87,2,11] ?_
 exact Ret.i b1 [_] ⟨rfl, trivial⟩ rfl trivial entS
theorem aseq_ok (cx mb n : Nat) (f : Int → Option Value) (hn : n ≤ 1000000) : FSpec Tryz.prog 337 [.slice none 0 0, .func (.func 325) #[] #[.pointer (some ⟨cx, 0, none⟩)]] noRd [pts cx 281 [.map (some mb)], mapF QM.encI mb f n] (fun y : (Option Addr × Nat) × List Int => .slice y.1.1 y.2.length y.1.2) (fun y => KeysOf f n y.2) (fun y => [slc 3 1 y.1.1 y.2.length y.1.2 (ints y.2), mapF QM.encI mb f n]) := by
 refine FSpec.introM (rs := [.tmp 4]) (by kernel_rfl) Tryz.func337 rfl Tryz.ntmps337 (by rfl) rfl ?_
 intro F _
 refine zz [44,0,1,5] ?_
 refine bx (v := .slice _ _ _) (l := [.slice _ _ _]) rfl rfl ?_
 intro b2
 refine zz [35,2,0,0,1,71,2,17] ?_
 refine TC.weak (B := sepL [pts cx 281 [.map (some mb)], mapF QM.encI mb f n, outK 43 3 b2 [], F]) ((slc_nil 3 1 _).trans (ent_take 2 rfl (ent_take 2 rfl (ent_close (⟨none, 0⟩ : Option Addr × Nat) trivial entS)))) ?_
 refine TC.rangeF (fun bf => [outK 43 3 b2 bf]) (keys_it cx mb n f hn) rfl (picked_cons 0 rfl (picked_cons 0 rfl (picked_nil _))) (picked_cons 0 rfl (picked_nil _)) (fun _ => rfl) rfl ?_ ?_
 ·rintro lp bf x F' hok
  refine zz [39,1,4,2] ?_
  refine ⟨rfl, (ent.refl _), fun F'' => ?_⟩
  refine zz [39] ?_
  refine TC.open 0 rfl (fun x0 hx0 => ?_)
  obtain ⟨ad1, cap1⟩ := x0
  clear hx0
  refine zz [44] ?_
  have hil := ints_length bf
  refine zz [17,1,12,3,5,72] ?_
  intro b3
  refine e rfl ?_
  refine ap 8 rfl rfl rfl rfl rfl (Nat.le_of_ble_eq_true rfl) (show _ = ints [x] from rfl) rfl (by omega) (by simp only [maxLen]; omega) ?_
  intro ad1 cap1
  refine zz [21,110] ?_
  refine TL.nil (nb ?_)
  refine ⟨rfl, rfl, ?_⟩
  change ent (sepL [_, _, _, _]) (sepL [_, _])
  exact (ent_close ⟨ad1, cap1⟩ trivial (ent_takeE 0 rfl (by simp [splice, Value.cells]) (ent_takeE 0 rfl (by simp [ints]) (ent_take 1 rfl (ent_nil _)))))
 ·intro D y hy
  refine (nb (nt ?_))
  refine zz [95] ?_
  refine TC.open 2 rfl (fun x0 hx0 => ?_)
  obtain ⟨ad2, cap2⟩ := x0
  clear hx0
  refine zz [82,0,1,12,35,2,11] ?_
  exact .inl ⟨⟨(ad2, cap2), y⟩, [_], D, rfl, rfl, ⟨rfl, trivial⟩, rfl, hy, (ent_take 4 rfl (ent_take 1 rfl (ent_take 2 rfl (ent_take 2 rfl (ent_nil _)))))⟩
theorem coll_ok (cx mb n : Nat) (f : Int → Option Value) (hn : n ≤ 1000000) : FSpec Tryz.prog 323 [.func (.func 325) #[] #[.pointer (some ⟨cx, 0, none⟩)]] noRd [pts cx 281 [.map (some mb)], mapF QM.encI mb f n] (fun y : (Option Addr × Nat) × List Int => .slice y.1.1 y.2.length y.1.2) (fun y => KeysOf f n y.2) (fun y => [slc 3 1 y.1.1 y.2.length y.1.2 (ints y.2), mapF QM.encI mb f n]) := by
 refine fI Tryz.func323 Tryz.ntmps323 ?_
 intro F _
 refine zz [44,0,1,35,2,0,1,71,5] ?_
 refine cl (aseq_ok cx mb n f hn) rfl PkL.p trivial ?_
 intro y hy
 refine zz [43,35,2,11] ?_
 exact Ret.i y [_] ⟨rfl, trivial⟩ rfl hy entS
end Go.Proofs.YtnlgmaibhlicjaaGreatDoor
