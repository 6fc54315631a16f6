/- Proved here: contracts of functions of this program, under the premises that each theorem names. -/
import Derived.Test.YtnlgmaibhlicjaaGreatDoorYw
set_option maxRecDepth 4000
namespace Go.Proofs.YtnlgmaibhlicjaaGreatDoor
open Go Go.QM
set_option maxRecDepth 4000
def K3 : KA := ⟨5, 4, [3, 2, 1, 0], [], 1, 0, 1360 + 336, 65536, [(0, 0, 0)]⟩
structure Aw3 (y : KRec) (gb : Nat) : Prop where
  I : KInv 6 K3 y
  A : Aw 4 y
  g : y.gf 3 = some (.pointer (some ⟨gb, 0, none⟩))
  n : Plc 48 (y.S.C 6) (enB y.S.m y.t 3)
  k : ∃ a f, Hd.getR y.l 3 = (ob 4 a f, 0)
def isK3 (kb : Nat) : HP := EX fun z : KRec × Nat => pure' (Aw3 z.1 z.2) (sepL [pts kb 74 [.pointer (some ⟨z.1.ib, 0, none⟩)], pts z.1.ib 128 [.pointer (some ⟨z.1.crb, 0, none⟩), .pointer (some ⟨z.1.thb, 0, none⟩), .pointer (some ⟨z.1.irb, 0, none⟩), .map (some z.1.hm), .map (some z.1.gm), .map (some z.1.lm)], pts z.1.crb 133 [.pointer (some ⟨z.1.hob, 0, none⟩)], pts z.1.hob 131 [.pointer (some ⟨z.1.sb, 0, none⟩)], pts z.1.sb 117 [.pointer (some ⟨z.1.cb, 0, none⟩), .pointer (some ⟨z.1.fb, 0, none⟩)], pts z.1.cb 87 [.pointer (some ⟨z.1.pb, 0, none⟩), .pointer (some ⟨z.1.hb, 0, none⟩), .pointer (some ⟨z.1.qb, 0, none⟩)], isPl z.1.pb 6 z.1.S, slc 174 5 (some ⟨z.1.hb, 0, none⟩) 256 256 (Hd.tabC z.1.l), isT z.1.thb T2, mapF encU z.1.hm (hf2 z.1.at9) 1, Fo.isF z.1.fb z.1.L z.1.last, mapF encU z.1.gm z.1.gf z.1.gn, isIq z.1.irb z.1.qf z.1.qn, mapF QM.encI z.1.lm z.1.lf z.1.ln, Gr.isQ z.1.qb z.1.pd 0 [], pts z.2 152 [.int .i64 (-1), .int .u64 0]])
theorem ka_gate (kb : Nat) (ad : Option Addr) (cap : Nat) : FSpec Tryz.prog 6 [.pointer (some ⟨kb, 0, none⟩), .agg #[.int .i64 0, .int .i64 0, .slice ad 2 cap]] GV [isKnA kb 6 (KN 65536) (Aw 3), slc 31 1 ad 2 cap (wordsC 1 0 3 4 0)] (fun y : Option Addr × Nat => .agg #[.int .i64 0, .int .u64 ((3 : Nat) : Int), .int .i64 2, .slice y.1 0 y.2]) (fun _ => True) (fun _ => [isK3 kb, slc 31 1 ad 2 cap (wordsC 1 0 3 4 0)]) := by
 refine FSpec.lift2 (p := fun z => KInv 6 (KN 65536) z ∧ Aw 3 z) (pre := fun z => [pts kb 74 [.pointer (some ⟨z.ib, 0, none⟩)], pts z.ib 128 [.pointer (some ⟨z.crb, 0, none⟩), .pointer (some ⟨z.thb, 0, none⟩), .pointer (some ⟨z.irb, 0, none⟩), .map (some z.hm), .map (some z.gm), .map (some z.lm)], pts z.crb 133 [.pointer (some ⟨z.hob, 0, none⟩)], pts z.hob 131 [.pointer (some ⟨z.sb, 0, none⟩)], pts z.sb 117 [.pointer (some ⟨z.cb, 0, none⟩), .pointer (some ⟨z.fb, 0, none⟩)], pts z.cb 87 [.pointer (some ⟨z.pb, 0, none⟩), .pointer (some ⟨z.hb, 0, none⟩), .pointer (some ⟨z.qb, 0, none⟩)], isPl z.pb 6 z.S, slc 174 5 (some ⟨z.hb, 0, none⟩) 256 256 (Hd.tabC z.l), isT z.thb T2, mapF encU z.hm (hf2 z.at9) 1, (EX fun _ : Unit => pure' True (sepL [Fo.isF z.fb z.L z.last, mapF encU z.gm z.gf z.gn])), slc 31 1 ad 2 cap (wordsC 1 0 3 4 0)]) (rest := fun z => [isIq z.irb z.qf z.qn, mapF QM.encI z.lm z.lf z.ln, Gr.isQ z.qb z.pd 0 []]) (by kernel_rfl) (ent_openD fun z hz => (ent_take 0 rfl (ent_take 0 rfl (ent_take 0 rfl (ent_take 0 rfl (ent_take 0 rfl (ent_take 0 rfl (ent_take 0 rfl (ent_take 0 rfl (ent_take 0 rfl (ent_take 0 rfl (ent_close () trivial entS)))))))))))) gvF (fun z hz => by
  have hl3 : HL z.l 3 := hz.1.hl
  have hk3 : 3 < 256 := by decide
  have hA0 := hz.1.us 3 (by decide) (show (3 : Nat) ∉ [2, 1, 0] by decide)
  obtain ⟨q1, q2, q3, f9, g9, q4, q5, q6⟩ := hz.1.fs (0, 0, 0) List.mem_cons_self
  try dsimp only at q1 q2 q3 q4 q6
  have hFz : z.S.Fr.length ≤ 0 := hz.1.F
  have hQz : 0 ≤ z.u ∧ z.u ≤ 1360 ∧ z.S.Q = [⟨0, -1, 65536, z.u⟩] := hz.1.Q
  have hqr : QR 65536 z.u [] := ⟨(fun x h => by cases h), hQz.1, by show z.u + 0 + 1000 ≤ 65536; omega⟩
  have hRb : RmB 6 z.S.Fr (4 + 1) := .inl ⟨by decide, by omega⟩
  have hch : ChQ 65536 z.u [] 0 (clsz 4 : Int) 32 [] 0 := fun v h1 h2 => charge0 (fun x h => by cases h) (by decide) (by show v + 0 + 32 ≤ 65536; omega)
  exact kstep_of kb z.ib z.crb z.hob z.sb z.thb z.irb z.hm z.gm z.lm z.fb z.cb z.pb z.hb z.qb 6 z.t z.S z.l hl3.ok hz.1.tk hz.1.P hz.1.T 1 0 3 4 0 (by decide) (by decide) (by decide) (by decide) (by decide) T2 T2 T2_TP T2_TB T2_run T2_TP T2_TB T2_run T2_told (hf2 z.at9) 1 z.at9 (hf2_at _) 0 (by decide) q3 (ob 1 f9 g9) q4 1 (.inr rfl) 1 1 (by decide) (by decide) (by decide) casks1_ok (EX fun _ : Unit => pure' True (sepL [Fo.isF z.fb z.L z.last, mapF encU z.gm z.gf z.gn])) _ (fun _ => 3) (fun _ => 0) _ (fun wa wc => (kdo_gate kb z.ib z.crb z.hob z.thb z.irb z.hm z.gm z.lm z.sb z.fb z.cb z.pb z.hb z.qb 6 z.t z.S z.l hl3.ok hz.1.tk hz.1.P hz.1.T 3 (by decide) 65536 z.u [] hA0 hz.1.Q.2.2 hqr 4 hz.1.U hRb z.L z.last (by rw [hz.2.la]; decide) (by decide) 0 (by decide) f9 g9 q4 q5 0 q6 (by decide) 32 [] hch (hl3.room hk3) 3 (by decide) (fun o => by rw [(hl3.put hk3 o).1]) (fun o => by rw [(hl3.put hk3 o).1]; exact (hl3.put hk3 o).2.2) (fun o => by rw [(hl3.put hk3 o).1]; exact (hl3.put hk3 o).2.1.ok) z.gf z.gn (hz.1.mp 3 (Int.le_refl _)).1 0 wa wc T2 (hf2 z.at9) 1)) (fun _ h => absurd rfl h) ad cap) (fun z hz y hφ => ?_)
 ·obtain ⟨hI, hA⟩ := hz
  have hl3 : HL z.l 3 := hI.hl
  have hk3 : 3 < 256 := by decide
  obtain ⟨hM, hpl, hzz, ⟨d, d0, d1, hQ2⟩, hnx, hFr⟩ := hφ
  have hQz : 0 ≤ z.u ∧ z.u ≤ 1360 ∧ z.S.Q = [⟨0, -1, 65536, z.u⟩] := hI.Q
  have hu48 := hA.u
  refine ⟨y.2, rfl, trivial, ?_⟩
  try dsimp only [List.cons_append, List.nil_append]
  refine ent_openAt 4 rfl (fun _ _ => ?_)
  rw [(hl3.put hk3 (ob 4 y.1.2.1 ((0 : Nat) : Int))).1]
  refine ent_close (({ z with S := y.1.2.2, l := z.l.set 3 ⟨(ob 4 y.1.2.1 ((0 : Nat) : Int)), 1, 0⟩, L := (Fo.addN z.L z.last 0 (1, ((3 : Nat) : Int))).1, last := (Fo.addN z.L z.last 0 (1, ((3 : Nat) : Int))).2.1, gf := updF z.gf 3 (.pointer (some ⟨y.1.1, 0, none⟩)), gn := z.gn + 1, u := z.u + d + 32 }, y.1.1) : KRec × Nat) ⟨hI.made (K' := K3) (o := (ob 4 y.1.2.1 ((0 : Nat) : Int))) (s := 3) (by decide) hk3 hM (hI.us 3 (by decide) (show (3 : Nat) ∉ [2, 1, 0] by decide)) rfl rfl (addN_last _ _ _ _) (by show y.1.2.2.Fr.length ≤ 0; rw [hFr]; exact hI.F) ⟨by show 0 ≤ z.u + d + 32; omega, by show z.u + d + 32 ≤ 1360 + 336; omega, hQ2⟩ (hnx.trans hI.nx) (fun _ => .inl ⟨(by decide : 3 ≤ 3), rfl⟩) rfl rfl rfl (fun x hx => .inl hx) (fun h hh => ⟨if_neg (by intro e; subst e; exact absurd hh (by decide)), rfl, rfl⟩),
   ⟨by show (Fo.addN z.L z.last 0 _).1 = _; rw [hA.L, hA.la]; rfl, by show (Fo.addN z.L z.last 0 _).2.1 = _; rw [hA.L, hA.la]; rfl, hA.sl.next (by decide) hM.A hM.O, fun j hj => by
    by_cases e : j = 3
    ·subst e; exact ⟨4, y.1.2.1, ((0 : Nat) : Int), (hl3.put hk3 (ob 4 y.1.2.1 ((0 : Nat) : Int))).2.2, by decide, by decide⟩
    ·obtain ⟨k, a, f, h1, h2⟩ := hA.kd j (by omega)
     exact ⟨k, a, f, (getR_set (l := z.l) (i := j) (k := 3) (by omega) e _).trans h1, h2⟩, by show 48 ≤ z.u + d + 32; omega, hA.pd, (by obtain ⟨a, f, h⟩ := hA.t2; exact ⟨a, f, (getR_set (l := z.l) (i := 2) (k := 3) (by decide) (by decide) _).trans h⟩)⟩, (show updF z.gf 3 _ 3 = _ from if_pos rfl), hM.N, ⟨y.1.2.1, ((0 : Nat) : Int), (hl3.put hk3 (ob 4 y.1.2.1 ((0 : Nat) : Int))).2.2⟩⟩ ?_
  exact entS
end Go.Proofs.YtnlgmaibhlicjaaGreatDoor
namespace Go.Proofs.YtnlgmaibhlicjaaGreatDoor
open Go Go.QM
set_option maxRecDepth 4000
theorem T2_st : stT T2 2 = 0 := by decide
def T3c : TS := (closeT T2 ((3 : Nat) : Int)).1
theorem T3c_TP : TP T3c [] := T2_TP.close _
theorem T3c_TB : TB T3c := ⟨by decide +kernel, by decide +kernel, by decide +kernel, by decide +kernel⟩
theorem T3c_run : Rd.runS T3c.S = 2 := by decide +kernel
theorem T3c_told : T3c.told.length = 0 := by decide +kernel
theorem enA_ld {m : Nat → Nat} {t s : Nat} (h : enA m t s ≠ 0) : rtW m t (s / 16) ≠ 0 ∧ ldW m (rtW m t (s / 16) + s % 16 * 16) ≠ 0 := by
 rw [enA] at h
 split at h
 ·exact absurd rfl h
 ·rename_i h0; exact ⟨h0, h⟩
theorem Aw.en {n : Nat} {y : KRec} (h : Aw n y) (hn : n ≤ 256) {j : Nat} (hj : j < n) : enA y.S.m y.t j ≠ 0 := by
 rw [h.sl j hj]; exact (packN_lt (r := 15) (by omega) (by decide)).2
theorem ka_send (kb : Nat) (ad : Option Addr) (cap : Nat) : FSpec Tryz.prog 6 [.pointer (some ⟨kb, 0, none⟩), .agg #[.int .i64 0, .int .i64 0, .slice ad 2 cap]] GV [isK3 kb, slc 31 1 ad 2 cap (wordsC 10 3 0 0 0)] (fun y : Option Addr × Nat => .agg #[.int .i64 12, .int .u64 ((0 : Nat) : Int), .int .i64 2, .slice y.1 0 y.2]) (fun _ => True) (fun _ => [isK3 kb, slc 31 1 ad 2 cap (wordsC 10 3 0 0 0)]) := by
 refine FSpec.lift2 (p := fun z : KRec × Nat => Aw3 z.1 z.2) (pre := fun z => [pts kb 74 [.pointer (some ⟨z.1.ib, 0, none⟩)], pts z.1.ib 128 [.pointer (some ⟨z.1.crb, 0, none⟩), .pointer (some ⟨z.1.thb, 0, none⟩), .pointer (some ⟨z.1.irb, 0, none⟩), .map (some z.1.hm), .map (some z.1.gm), .map (some z.1.lm)], pts z.1.crb 133 [.pointer (some ⟨z.1.hob, 0, none⟩)], pts z.1.hob 131 [.pointer (some ⟨z.1.sb, 0, none⟩)], pts z.1.sb 117 [.pointer (some ⟨z.1.cb, 0, none⟩), .pointer (some ⟨z.1.fb, 0, none⟩)], pts z.1.cb 87 [.pointer (some ⟨z.1.pb, 0, none⟩), .pointer (some ⟨z.1.hb, 0, none⟩), .pointer (some ⟨z.1.qb, 0, none⟩)], isPl z.1.pb 6 z.1.S, slc 174 5 (some ⟨z.1.hb, 0, none⟩) 256 256 (Hd.tabC z.1.l), isT z.1.thb T2, mapF encU z.1.hm (hf2 z.1.at9) 1, (EX fun _ : Unit => pure' True (sepL [mapF encU z.1.gm z.1.gf z.1.gn, pts z.2 152 [.int .i64 (-1), .int .u64 0]])), slc 31 1 ad 2 cap (wordsC 10 3 0 0 0)]) (rest := fun z => [Fo.isF z.1.fb z.1.L z.1.last, isIq z.1.irb z.1.qf z.1.qn, mapF QM.encI z.1.lm z.1.lf z.1.ln, Gr.isQ z.1.qb z.1.pd 0 []]) (by kernel_rfl) (ent_openD fun z hz => (ent_take 0 rfl (ent_take 0 rfl (ent_take 0 rfl (ent_take 0 rfl (ent_take 0 rfl (ent_take 0 rfl (ent_take 0 rfl (ent_take 0 rfl (ent_take 0 rfl (ent_take 0 rfl (ent_close () trivial entS)))))))))))) gvF (fun z hz => by
  have z9 : KInv 6 K3 z.1 := hz.I
  obtain ⟨a2, f2, t2⟩ := hz.A.t2
  obtain ⟨a3, f3, t3⟩ := hz.k
  have hth := z9.th (by decide)
  obtain ⟨k, pn, i, f, hk, hi, e9⟩ := hth.1.at
  have e3 : clsz 3 = 256 := rfl
  exact kstep_of kb z.1.ib z.1.crb z.1.hob z.1.sb z.1.thb z.1.irb z.1.hm z.1.gm z.1.lm z.1.fb z.1.cb z.1.pb z.1.hb z.1.qb 6 z.1.t z.1.S z.1.l z9.hl.ok z9.tk z9.P z9.T 10 3 0 0 0 (by decide) (by decide) (by decide) (by decide) (by decide) T2 T2 T2_TP T2_TB T2_run T2_TP T2_TB T2_run T2_told (hf2 z.1.at9) 1 z.1.at9 (hf2_at _) 3 (by decide) (hz.A.sl 3 (by decide)) (ob 4 a3 f3) t3 4 (.inr rfl) 1 1 (by decide) (by decide) (by decide) casks10_ok (EX fun _ : Unit => pure' True (sepL [mapF encU z.1.gm z.1.gf z.1.gn, pts z.2 152 [.int .i64 (-1), .int .u64 0]])) (fun _ : Unit => (EX fun _ : Unit => pure' True (sepL [pts z.1.crb 133 [.pointer (some ⟨z.1.hob, 0, none⟩)], pts z.1.hob 131 [.pointer (some ⟨z.1.sb, 0, none⟩)], pts z.1.sb 117 [.pointer (some ⟨z.1.cb, 0, none⟩), .pointer (some ⟨z.1.fb, 0, none⟩)], pts z.1.cb 87 [.pointer (some ⟨z.1.pb, 0, none⟩), .pointer (some ⟨z.1.hb, 0, none⟩), .pointer (some ⟨z.1.qb, 0, none⟩)], isPl z.1.pb 6 z.1.S, slc 174 5 (some ⟨z.1.hb, 0, none⟩) 256 256 (Hd.tabC z.1.l), mapF encU z.1.gm z.1.gf z.1.gn, pts z.2 152 [.int .i64 (-1), .int .u64 0]]))) (fun _ => 0) (fun _ => 12) (fun _ => True) (fun wa wc => (kdo_send kb z.1.ib z.1.crb z.1.hob z.1.sb z.1.thb z.1.irb z.1.hm z.1.gm z.1.lm z.1.fb z.1.cb z.1.pb z.1.hb z.1.qb 6 z.1.t z.1.S z.1.l z9.hl.ok z9.tk z9.P k pn i f hk hi (fun o h1 h2 => hth.2 o (by rw [e3] at h1; omega) (by rw [e3] at h2; omega)) 3 3 (by decide) (ob 3 a2 f2) (ob 4 a3 f3) rfl rfl t2 t3 T2 T2_st z.1.gf z.1.gn z.2 hz.g (hf2 z.1.at9) 1 (by rw [hf2_at, e9]; rfl) wa wc)) (fun _ _ => rfl) ad cap) (fun z hz y hφ => ?_)
 ·refine ⟨y.2, rfl, trivial, ?_⟩
  try dsimp only [List.cons_append, List.nil_append]
  refine ent_openAt 4 rfl (fun _ _ => ?_)
  refine ent_close z hz ?_
  exact entS
theorem ka_kill (kb : Nat) (ad : Option Addr) (cap : Nat) : FSpec Tryz.prog 6 [.pointer (some ⟨kb, 0, none⟩), .agg #[.int .i64 0, .int .i64 0, .slice ad 2 cap]] GV [isK3 kb, slc 31 1 ad 2 cap (wordsC 2 3 0 0 0)] (fun y : Option Addr × Nat => .agg #[.int .i64 0, .int .u64 ((1 : Nat) : Int), .int .i64 2, .slice y.1 0 y.2]) (fun _ => True) (fun _ => [slc 31 1 ad 2 cap (wordsC 2 3 0 0 0)]) := by
 refine FSpec.lift2 (p := fun z : KRec × Nat => Aw3 z.1 z.2) (pre := fun z => [pts kb 74 [.pointer (some ⟨z.1.ib, 0, none⟩)], pts z.1.ib 128 [.pointer (some ⟨z.1.crb, 0, none⟩), .pointer (some ⟨z.1.thb, 0, none⟩), .pointer (some ⟨z.1.irb, 0, none⟩), .map (some z.1.hm), .map (some z.1.gm), .map (some z.1.lm)], pts z.1.crb 133 [.pointer (some ⟨z.1.hob, 0, none⟩)], pts z.1.hob 131 [.pointer (some ⟨z.1.sb, 0, none⟩)], pts z.1.sb 117 [.pointer (some ⟨z.1.cb, 0, none⟩), .pointer (some ⟨z.1.fb, 0, none⟩)], pts z.1.cb 87 [.pointer (some ⟨z.1.pb, 0, none⟩), .pointer (some ⟨z.1.hb, 0, none⟩), .pointer (some ⟨z.1.qb, 0, none⟩)], isPl z.1.pb 6 z.1.S, slc 174 5 (some ⟨z.1.hb, 0, none⟩) 256 256 (Hd.tabC z.1.l), isT z.1.thb T2, mapF encU z.1.hm (hf2 z.1.at9) 1, (EX fun _ : Unit => pure' True (sepL [Fo.isF z.1.fb z.1.L z.1.last, Gr.isQ z.1.qb z.1.pd 0 [], mapF encU z.1.gm z.1.gf z.1.gn])), slc 31 1 ad 2 cap (wordsC 2 3 0 0 0)]) (rest := fun z => [isIq z.1.irb z.1.qf z.1.qn, mapF QM.encI z.1.lm z.1.lf z.1.ln, pts z.2 152 [.int .i64 (-1), .int .u64 0]]) (by kernel_rfl) (ent_openD fun z hz => (ent_take 0 rfl (ent_take 0 rfl (ent_take 0 rfl (ent_take 0 rfl (ent_take 0 rfl (ent_take 0 rfl (ent_take 0 rfl (ent_take 0 rfl (ent_take 0 rfl (ent_take 0 rfl (ent_close () trivial entS)))))))))))) gvF (fun z hz => by
  have z9 : KInv 6 K3 z.1 := hz.I
  obtain ⟨a2, f2, t2⟩ := hz.A.t2
  obtain ⟨a3, f3, t3⟩ := hz.k
  have hsl : slL z.1.S.m z.1.t 256 = (List.range 4).map fun s : Nat => (s : Int) := slL_first (n := 4) (fun j hj => hz.A.en (by decide) hj) (fun j h1 h2 => z9.us j h2 (show j ∉ [3, 2, 1, 0] from fun h => by simp at h; omega)) 252 (by decide)
  have hone : (z.1.S.C 6).length ≤ 1 := by
   have h1 : usd z.1.S.C 6 ≤ 5 := z9.U 6 c6
   have h2 := len_usd z9.P c6 h1
   have e : 960 / clsz 6 = 20 := rfl
   rw [e] at h2; omega
  exact kstep_of kb z.1.ib z.1.crb z.1.hob z.1.sb z.1.thb z.1.irb z.1.hm z.1.gm z.1.lm z.1.fb z.1.cb z.1.pb z.1.hb z.1.qb 6 z.1.t z.1.S z.1.l z9.hl.ok z9.tk z9.P z9.T 2 3 0 0 0 (by decide) (by decide) (by decide) (by decide) (by decide) T2 (closeT T2 ((3 : Nat) : Int)).1 T2_TP T2_TB T2_run T3c_TP T3c_TB T3c_run T3c_told (hf2 z.1.at9) 1 z.1.at9 (hf2_at _) 3 (by decide) (hz.A.sl 3 (by decide)) (ob 4 a3 f3) t3 0 (.inl rfl) 8 8 (by decide) (by decide) (by decide) casks2_ok (EX fun _ : Unit => pure' True (sepL [Fo.isF z.1.fb z.1.L z.1.last, Gr.isQ z.1.qb z.1.pd 0 [], mapF encU z.1.gm z.1.gf z.1.gn])) (fun _ : Unit => (EX fun _ : Unit => pure' True (sepL []))) (fun _ => 1) (fun _ => 0) (fun _ => True) (fun wa wc => (kdo_kill kb z.1.ib z.1.crb z.1.hob z.1.sb z.1.thb z.1.irb z.1.hm z.1.gm z.1.lm z.1.fb z.1.cb z.1.pb z.1.hb z.1.qb 6 z.1.t z.1.S z.1.l z9.hl.ok z9.tk z9.P z9.T 4 (by decide) hsl (fun j hj => hz.A.sl j hj) (HL.live (show HL z.1.l 4 from z9.hl) (by decide)) (fun j hj => by obtain ⟨k, a, f, h1, h2, _⟩ := hz.A.kd j hj; exact ⟨k, a, f, h1, h2⟩) 3 (by decide) ⟨0, by decide, by decide, (enA_ld (hz.A.en (by decide) (show 0 < 4 by decide))).2⟩ hz.n 65536 z.1.u [] z9.Q.2.2 (fun x h => by cases h) hz.A.u hone z.1.L z.1.last 4 (by rw [hz.A.L]; decide) (by rw [hz.A.L]; rfl) (by rw [hz.A.L]; rfl) z.1.pd hz.A.pd (by decide) a3 f3 t3 T2 T2_TP T2_TB z.1.gf z.1.gn (hf2 z.1.at9) 1 3 wa wc)) (fun _ h => absurd rfl h) ad cap) (fun z hz y hφ => ?_)
 ·refine ⟨y.2, rfl, trivial, ?_⟩
  try dsimp only [List.cons_append, List.nil_append]
  exact entS
theorem awake_ok  : FSpec Tryz.prog 4 [] GV [] (fun _ : Unit => .bool true) (fun _ => True) (fun _ => []) := by
 refine fI Tryz.func4 Tryz.ntmps4 ?_
 intro F hF
 refine zz [37] ?_
 haveI : GVI F := ⟨hF⟩
 refine zz [0,1,9,2,0,1,5] ?_
 refine cl usual_ok rfl (picked_nil _) trivial ?_
 intro _ _
 refine zz [98,5] ?_
 refine cl (knewA_ok 65536 6 65536 (.inl ⟨rfl, rfl⟩) (by decide) (by decide) 2 (by decide) (by decide)) rfl (picked_nil _) GVI.gv ?_
 intro kb _
 refine zz [66,24,2,0,1,6,138,5] ?_
 refine cl (ask_ok 1 0 3 4 0 (by decide) (by decide) (by decide) (by decide) (by decide)) rfl (picked_nil _) trivial ?_
 intro w1 _
 refine zz [43,5] ?_
 refine cl (ka_gate kb w1.1 w1.2) rfl PkL.p GVI.gv ?_
 intro r1 _
 refine zz [43,5] ?_
 refine al (l := [.int _ _, .int _ _, .int _ _, .slice _ _ _]) rfl rfl ?_
 intro b1
 refine zz [21,68,2,0,1,6,138,5] ?_
 refine cl (ask_ok 10 3 0 0 0 (by decide) (by decide) (by decide) (by decide) (by decide)) rfl (picked_nil _) trivial ?_
 intro w2 _
 refine zz [57,5] ?_
 refine cl (ka_send kb w2.1 w2.2) rfl PkL.p GVI.gv ?_
 intro r2 _
 refine zz [57,5] ?_
 refine al (l := [.int _ _, .int _ _, .int _ _, .slice _ _ _]) rfl rfl ?_
 intro b2
 refine zz [21,68,2,0,1,6,138,5] ?_
 refine cl (ask_ok 2 3 0 0 0 (by decide) (by decide) (by decide) (by decide) (by decide)) rfl (picked_nil _) trivial ?_
 intro w3 _
 refine zz [49,5] ?_
 refine cl (ka_kill kb w3.1 w3.2) rfl PkL.p GVI.gv ?_
 intro r3 _
 refine zz [69,5] ?_
 refine al (l := [.int _ _, .int _ _, .int _ _, .slice _ _ _]) rfl rfl ?_
 intro b3
 refine zz [21,68,2,0,1] ?_
 first | refine q rfl rfl (ldN (vs := [_, _, _, _]) 4 rfl rfl rfl rfl) ?_ | refine q rfl rfl (ldSN (vs := [_, _, _, _]) 4 rfl rfl rfl rfl (by decide)) ?_
 first | refine q rfl rfl (bld (cs := [.int _ _, .int _ _, .int _ _, .slice _ _ _]) rfl) ?_ | refine q rfl rfl (bld (cs := [_, _, _, _]) rfl) ?_
 refine e rfl ?_
 refine cl (r22same_ok 0 3 2 r1.1 none r1.2 0) rfl (picked_nil _) trivial ?_
 intro _ _
 refine zz [49,20,284,285,59] ?_
 refine cl (r22same_ok 12 0 2 r2.1 none r2.2 0) rfl (picked_nil _) trivial ?_
 intro _ _
 refine zz [49,19,20,284,285,59] ?_
 refine cl (r22same_ok 0 1 2 r3.1 none r3.2 0) rfl (picked_nil _) trivial ?_
 intro _ _
 refine zz [49,19,9,2,11] ?_
 exact zc0
end Go.Proofs.YtnlgmaibhlicjaaGreatDoor
