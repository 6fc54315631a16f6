/- Proved here: contracts of functions of this program, under the premises that each theorem names. -/
import Derived.Test.YtnlgmaibhlicjaaGreatDoorYu
set_option maxRecDepth 4000
namespace Go.Proofs.YtnlgmaibhlicjaaGreatDoor
open Go Go.QM
set_option maxRecDepth 4000
theorem FSpec.weakP {P : Program} {f : FuncId} {args : List Value} {rd : HP → Prop} {Y : Type} {pre : List HP} {res : Y → Value} {φ : Y → Prop} {post post2 : Y → List HP} (h : FSpec P f args rd pre res φ post) (hp : ∀ y, ent (sepL (post y)) (sepL (post2 y))) : FSpec P f args rd pre res φ post2 :=
 ⟨h.1, fun F hF w hs => (h.2 F hF w hs).mono fun e w' ⟨y, h1, h2, h3, h4⟩ => ⟨y, h1, h2, h3, h4.weak (sep_mono (hp y) (ent.refl F))⟩⟩
theorem FSpec.lift2 {P : Program} {f : FuncId} {args : List Value} {rd : HP → Prop} {Z Y Y' : Type} {p : Z → Prop} {pre rest : Z → List HP} {res : Z → Y → Value} {φ : Z → Y → Prop} {post : Z → Y → List HP} {PRE : List HP} {res' : Y' → Value} {φ' : Y' → Prop} {POST : Y' → List HP} (he : enterT P f = true) (hpre : ent (sepL PRE) (EX fun z => pure' (p z) (sepL (pre z ++ rest z)))) (hrd : ∀ A F, rd F → rd (sep A F)) (h : ∀ z, p z → FSpec P f args rd (pre z) (res z) (φ z) (post z)) (hpost : ∀ z, p z → ∀ y, φ z y → ∃ y', res z y = res' y' ∧ φ' y' ∧ ent (sepL (post z y ++ rest z)) (sepL (POST y'))) : FSpec P f args rd PRE res' φ' POST :=
 ⟨he, fun F hF w hs => by
  obtain ⟨hh, hx, p', q', dd, rfl, ⟨z, hz, hB⟩, hq⟩ := hs.weak (sep_mono hpre (ent.refl F))
  have h2 : sat w (sep (sepL (pre z)) (sep (sepL (rest z)) F)) := sat.weak ⟨_, hx, p', q', dd, rfl, hB, hq⟩ ((sep_mono (sepL_append' _ _) (ent.refl F)).trans sep_assoc)
  exact ((h z hz).2 _ (hrd _ F hF) w h2).mono fun e w' ⟨y, h1, h2, h3, h4⟩ => by
   obtain ⟨y', k1, k2, k3⟩ := hpost z hz y h2
   exact ⟨y', by rw [h1, k1], k2, h3, h4.weak (sep_assoc'.trans (sep_mono ((sepL_append _ _).trans k3) (ent.refl F)))⟩⟩
theorem ent_openAt (n : Nat) {α : Type} {p : α → Prop} {B : α → List HP} {hs r : List HP} {G : HP} (h : take1 n hs = some (EX (fun x => pure' (p x) (sepL (B x))), r)) (k : ∀ x, p x → ent (sepL (B x ++ r)) G) : ent (sepL hs) G := by
 refine (take1_ent h).trans ?_
 rintro hh ⟨a, c, d, rfl, ⟨x, hp, hB⟩, hc⟩
 obtain ⟨h1, s1, k1⟩ := sepL_append (B x) r _ ⟨a, c, d, rfl, hB, hc⟩
 obtain ⟨h2, s2, k2⟩ := k x hp h1 k1
 exact ⟨h2, fun i o hi => s1 i o (s2 i o hi), k2⟩
theorem ent_openD {α : Type} {p : α → Prop} {B C : α → List HP} {rs : List HP} (h : ∀ x, p x → ent (sepL (B x ++ rs)) (sepL (C x))) : ent (sepL ((EX fun x => pure' (p x) (sepL (B x))) :: rs)) (EX fun x => pure' (p x) (sepL (C x))) := by
 rintro hh ⟨a, c, d, rfl, ⟨x, hp, hB⟩, hc⟩
 obtain ⟨h1, s1, k1⟩ := sepL_append (B x) rs _ ⟨a, c, d, rfl, hB, hc⟩
 obtain ⟨h2, s2, k2⟩ := h x hp h1 k1
 exact ⟨h2, fun i o hi => s1 i o (s2 i o hi), x, hp, k2⟩
theorem gvF (A F : HP) (h : GV F) : GV (sep A F) := by
 obtain ⟨⟨e1, z1, h1⟩, ⟨e2, z2, h2⟩, ⟨e3, z3, h3⟩⟩ := h
 exact ⟨⟨e1, z1, Rd_r h1⟩, ⟨e2, z2, Rd_r h2⟩, ⟨e3, z3, Rd_r h3⟩⟩
def T2 : TS := (startS (addL t0 [2]) 2 3 4).1
theorem T2_TP : TP T2 [] := (TP.adds [2] TP.zero).start 2 3 4
theorem T2_TB : TB T2 := ⟨by decide, by decide, by decide, by decide⟩
theorem T2_run : Rd.runS T2.S = 2 := by decide
theorem T2_told : T2.told.length = 0 := by decide
def hf2 (a : Nat) : Int → Option Value := updF (fun _ => none) 2 (.agg #[.int .u32 1, .int .i64 (a : Int)])
theorem hf2_at (a : Nat) : hf2 a 2 = some (.agg #[.int .u32 1, .int .i64 (a : Int)]) := by rw [hf2, updF, if_pos rfl]
def isKn (kb top : Nat) (K : KA) : HP := EX fun y : KRec => pure' (KInv top K y) (sepL [pts kb 74 [.pointer (some ⟨y.ib, 0, none⟩)], pts y.ib 128 [.pointer (some ⟨y.crb, 0, none⟩), .pointer (some ⟨y.thb, 0, none⟩), .pointer (some ⟨y.irb, 0, none⟩), .map (some y.hm), .map (some y.gm), .map (some y.lm)], pts y.crb 133 [.pointer (some ⟨y.hob, 0, none⟩)], pts y.hob 131 [.pointer (some ⟨y.sb, 0, none⟩)], pts y.sb 117 [.pointer (some ⟨y.cb, 0, none⟩), .pointer (some ⟨y.fb, 0, none⟩)], pts y.cb 87 [.pointer (some ⟨y.pb, 0, none⟩), .pointer (some ⟨y.hb, 0, none⟩), .pointer (some ⟨y.qb, 0, none⟩)], isPl y.pb top y.S, slc 174 5 (some ⟨y.hb, 0, none⟩) 256 256 (Hd.tabC y.l), isT y.thb T2, mapF encU y.hm (hf2 y.at9) 1, Fo.isF y.fb y.L y.last, mapF encU y.gm y.gf y.gn, isIq y.irb y.qf y.qn, mapF QM.encI y.lm y.lf y.ln, Gr.isQ y.qb y.pd 0 []])
def isKnA (kb top : Nat) (K : KA) (P : KRec → Prop) : HP := EX fun y : KRec => pure' (KInv top K y ∧ P y) (sepL [pts kb 74 [.pointer (some ⟨y.ib, 0, none⟩)], pts y.ib 128 [.pointer (some ⟨y.crb, 0, none⟩), .pointer (some ⟨y.thb, 0, none⟩), .pointer (some ⟨y.irb, 0, none⟩), .map (some y.hm), .map (some y.gm), .map (some y.lm)], pts y.crb 133 [.pointer (some ⟨y.hob, 0, none⟩)], pts y.hob 131 [.pointer (some ⟨y.sb, 0, none⟩)], pts y.sb 117 [.pointer (some ⟨y.cb, 0, none⟩), .pointer (some ⟨y.fb, 0, none⟩)], pts y.cb 87 [.pointer (some ⟨y.pb, 0, none⟩), .pointer (some ⟨y.hb, 0, none⟩), .pointer (some ⟨y.qb, 0, none⟩)], isPl y.pb top y.S, slc 174 5 (some ⟨y.hb, 0, none⟩) 256 256 (Hd.tabC y.l), isT y.thb T2, mapF encU y.hm (hf2 y.at9) 1, Fo.isF y.fb y.L y.last, mapF encU y.gm y.gf y.gn, isIq y.irb y.qf y.qn, mapF QM.encI y.lm y.lf y.ln, Gr.isQ y.qb y.pd 0 []])
theorem isKnA_to {kb top : Nat} {K : KA} {P : KRec → Prop} : ent (sepL [isKnA kb top K P]) (sepL [isKn kb top K]) := by
 rintro hh ⟨a, c, d, rfl, ⟨y, hp, hB⟩, hc⟩
 exact ⟨_, fun _ _ h => h, a, c, d, rfl, ⟨y, hp.1, hB⟩, hc⟩
theorem kst_task (kb top : Nat) (K : KA) (s ts th w : Nat) (hx : (ts, th, w) ∈ K.fs) (hs8 : s < 128) (hsu : s ∉ K.us) (hq : (∀ x ∈ K.r, x.id ≠ 0) ∧ K.b + Qt.givQ K.r 0 + 1000 ≤ K.lim) (hRm : K.n + 1 ≤ 8 ∧ K.fr ≤ 8 ∨ K.n + 1 ≤ 76 ∧ top = 7 ∧ K.fr ≤ 40) (hk3 : 3 ≤ K.k) (hk : K.k < 256) (hw9 : w ≤ 40) (r1 : List Qt.Qn) (hch : ∀ u, ChQ K.lim u K.r w (clsz 2 : Int) 0 r1 0) (ad : Option Addr) (cap : Nat) : FSpec Tryz.prog 6 [.pointer (some ⟨kb, 0, none⟩), .agg #[.int .i64 0, .int .i64 0, .slice ad 2 cap]] GV [isKn kb top K, slc 31 1 ad 2 cap (wordsC 1 ts s 2 0)] (fun y : Option Addr × Nat => .agg #[.int .i64 0, .int .u64 (K.k : Int), .int .i64 2, .slice y.1 0 y.2]) (fun _ => True) (fun _ => [isKn kb top ⟨K.n + 1, K.k + 1, s :: K.us, r1, K.nx, K.fr, K.b + 304, K.lim, K.fs⟩, slc 31 1 ad 2 cap (wordsC 1 ts s 2 0)]) := by
 refine FSpec.lift2 (p := KInv top K) (pre := fun z => [pts kb 74 [.pointer (some ⟨z.ib, 0, none⟩)], pts z.ib 128 [.pointer (some ⟨z.crb, 0, none⟩), .pointer (some ⟨z.thb, 0, none⟩), .pointer (some ⟨z.irb, 0, none⟩), .map (some z.hm), .map (some z.gm), .map (some z.lm)], pts z.crb 133 [.pointer (some ⟨z.hob, 0, none⟩)], pts z.hob 131 [.pointer (some ⟨z.sb, 0, none⟩)], pts z.sb 117 [.pointer (some ⟨z.cb, 0, none⟩), .pointer (some ⟨z.fb, 0, none⟩)], pts z.cb 87 [.pointer (some ⟨z.pb, 0, none⟩), .pointer (some ⟨z.hb, 0, none⟩), .pointer (some ⟨z.qb, 0, none⟩)], isPl z.pb top z.S, slc 174 5 (some ⟨z.hb, 0, none⟩) 256 256 (Hd.tabC z.l), isT z.thb T2, mapF encU z.hm (hf2 z.at9) 1, (EX fun _ : Unit => pure' True (sepL [Fo.isF z.fb z.L z.last])), slc 31 1 ad 2 cap (wordsC 1 ts s 2 0)]) (rest := fun z => [mapF encU z.gm z.gf z.gn, isIq z.irb z.qf z.qn, mapF QM.encI z.lm z.lf z.ln, Gr.isQ z.qb z.pd 0 []]) (by kernel_rfl) (ent_openD fun z hz => (ent_take 0 rfl (ent_take 0 rfl (ent_take 0 rfl (ent_take 0 rfl (ent_take 0 rfl (ent_take 0 rfl (ent_take 0 rfl (ent_take 0 rfl (ent_take 0 rfl (ent_take 0 rfl (ent_close () trivial entS)))))))))))) gvF (fun z hz => by
  have hA0 := hz.us s (by omega) hsu
  obtain ⟨q1, q2, q3, f9, g9, q4, q5, q6⟩ := hz.fs _ hx
  try dsimp only at q1 q2 q3 q4 q6
  have hFz := hz.F
  have hQz := hz.Q
  have hqr : QR K.lim z.u K.r := ⟨hq.1, hQz.1, by have := hq.2; omega⟩
  have hRb : RmB top z.S.Fr (K.n + 1) := hRm.elim (fun h => .inl ⟨h.1, by omega⟩) (fun h => .inr ⟨h.1, h.2.1, by omega⟩)
  exact kstep_of kb z.ib z.crb z.hob z.sb z.thb z.irb z.hm z.gm z.lm z.fb z.cb z.pb z.hb z.qb top z.t z.S z.l hz.hl.ok hz.tk hz.P hz.T 1 ts s 2 0 (by decide) (by omega) (by omega) (by omega) (by decide) T2 T2 T2_TP T2_TB T2_run T2_TP T2_TB T2_run T2_told (hf2 z.at9) 1 z.at9 (hf2_at _) th (by omega) q3 (ob 1 f9 g9) q4 1 (.inr rfl) 1 1 (by decide) (by decide) (by decide) casks1_ok (EX fun _ : Unit => pure' True (sepL [Fo.isF z.fb z.L z.last])) _ (fun _ => K.k) (fun _ => 0) _ (fun wa wc => (kdo_task kb z.ib z.crb z.hob z.thb z.irb z.hm z.gm z.lm z.sb z.fb z.cb z.pb z.hb z.qb top z.t z.S z.l hz.hl.ok hz.tk hz.P hz.T s (by omega) K.lim z.u K.r hA0 hz.Q.2.2 hqr K.n hz.U hRb z.L z.last (by have := hz.la; have := hRm; omega) hs8 (th : Int) (by omega) f9 g9 q4 q5 w q6 hw9 0 r1 (hch z.u) (hz.hl.room hk) K.k (by omega) (fun o => by rw [(hz.hl.put hk o).1]) (fun o => by rw [(hz.hl.put hk o).1]; exact (hz.hl.put hk o).2.2) (fun o => by rw [(hz.hl.put hk o).1]; exact (hz.hl.put hk o).2.1.ok) ts wa wc T2 (hf2 z.at9) 1)) (fun _ h => absurd rfl h) ad cap) (fun z hz y hφ => ?_)
 ·try dsimp only at hφ
  obtain ⟨hM, hpl, hzz, ⟨d, d0, d1, hQ2⟩, hnx, hFr⟩ := hφ
  have hQz := hz.Q
  refine ⟨y.2, rfl, trivial, ?_⟩
  try dsimp only [List.cons_append, List.nil_append]
  refine ent_openAt 4 rfl (fun _ _ => ?_)
  rw [(hz.hl.put hk (ob 2 y.1.1 (w : Int))).1]
  refine ent_close ({ z with S := y.1.2, l := z.l.set K.k ⟨(ob 2 y.1.1 (w : Int)), 1, 0⟩, L := (Fo.addN z.L z.last 0 (1, (s : Int))).1, last := (Fo.addN z.L z.last 0 (1, (s : Int))).2.1, u := z.u + d + 0 } : KRec) (hz.made (K' := ⟨K.n + 1, K.k + 1, s :: K.us, r1, K.nx, K.fr, K.b + 304, K.lim, K.fs⟩) (o := (ob 2 y.1.1 (w : Int))) (by omega) hk hM (hz.us s (by omega) hsu) rfl rfl (addN_last _ _ _ _) (by rw [show ({ z with S := y.1.2, l := z.l.set K.k ⟨(ob 2 y.1.1 (w : Int)), 1, 0⟩, L := (Fo.addN z.L z.last 0 (1, (s : Int))).1, last := (Fo.addN z.L z.last 0 (1, (s : Int))).2.1, u := z.u + d + 0 } : KRec).S.Fr = _ from hFr]; exact hz.F) ⟨by show 0 ≤ z.u + d + 0; omega, by show z.u + d + 0 ≤ K.b + 304; omega, hQ2⟩ (hnx.trans hz.nx) (fun _ => .inl ⟨hk3, rfl⟩) rfl rfl rfl (fun x hx => .inl hx) (fun h hh => ⟨rfl, rfl, rfl⟩)) ?_
  exact entS
theorem kst_gate (kb top : Nat) (K : KA) (s ts th w : Nat) (hx : (ts, th, w) ∈ K.fs) (hs8 : s < 128) (hsu : s ∉ K.us) (hq : (∀ x ∈ K.r, x.id ≠ 0) ∧ K.b + Qt.givQ K.r 0 + 1000 ≤ K.lim) (hRm : K.n + 1 ≤ 8 ∧ K.fr ≤ 8 ∨ K.n + 1 ≤ 76 ∧ top = 7 ∧ K.fr ≤ 40) (hk3 : 3 ≤ K.k) (hk : K.k < 256) (hw9 : w ≤ 40) (r1 : List Qt.Qn) (hch : ∀ u, ChQ K.lim u K.r w (clsz 4 : Int) 0 r1 0) (ad : Option Addr) (cap : Nat) : FSpec Tryz.prog 6 [.pointer (some ⟨kb, 0, none⟩), .agg #[.int .i64 0, .int .i64 0, .slice ad 2 cap]] GV [isKn kb top K, slc 31 1 ad 2 cap (wordsC 1 ts s 4 0)] (fun y : Option Addr × Nat => .agg #[.int .i64 0, .int .u64 (K.k : Int), .int .i64 2, .slice y.1 0 y.2]) (fun _ => True) (fun _ => [isKn kb top ⟨K.n + 1, K.k + 1, s :: K.us, r1, K.nx, K.fr, K.b + 304, K.lim, K.fs⟩, slc 31 1 ad 2 cap (wordsC 1 ts s 4 0)]) := by
 refine FSpec.lift2 (p := KInv top K) (pre := fun z => [pts kb 74 [.pointer (some ⟨z.ib, 0, none⟩)], pts z.ib 128 [.pointer (some ⟨z.crb, 0, none⟩), .pointer (some ⟨z.thb, 0, none⟩), .pointer (some ⟨z.irb, 0, none⟩), .map (some z.hm), .map (some z.gm), .map (some z.lm)], pts z.crb 133 [.pointer (some ⟨z.hob, 0, none⟩)], pts z.hob 131 [.pointer (some ⟨z.sb, 0, none⟩)], pts z.sb 117 [.pointer (some ⟨z.cb, 0, none⟩), .pointer (some ⟨z.fb, 0, none⟩)], pts z.cb 87 [.pointer (some ⟨z.pb, 0, none⟩), .pointer (some ⟨z.hb, 0, none⟩), .pointer (some ⟨z.qb, 0, none⟩)], isPl z.pb top z.S, slc 174 5 (some ⟨z.hb, 0, none⟩) 256 256 (Hd.tabC z.l), isT z.thb T2, mapF encU z.hm (hf2 z.at9) 1, (EX fun _ : Unit => pure' True (sepL [Fo.isF z.fb z.L z.last, mapF encU z.gm z.gf z.gn])), slc 31 1 ad 2 cap (wordsC 1 ts s 4 0)]) (rest := fun z => [isIq z.irb z.qf z.qn, mapF QM.encI z.lm z.lf z.ln, Gr.isQ z.qb z.pd 0 []]) (by kernel_rfl) (ent_openD fun z hz => (ent_take 0 rfl (ent_take 0 rfl (ent_take 0 rfl (ent_take 0 rfl (ent_take 0 rfl (ent_take 0 rfl (ent_take 0 rfl (ent_take 0 rfl (ent_take 0 rfl (ent_take 0 rfl (ent_close () trivial entS)))))))))))) gvF (fun z hz => by
  have hA0 := hz.us s (by omega) hsu
  obtain ⟨q1, q2, q3, f9, g9, q4, q5, q6⟩ := hz.fs _ hx
  try dsimp only at q1 q2 q3 q4 q6
  have hFz := hz.F
  have hQz := hz.Q
  have hqr : QR K.lim z.u K.r := ⟨hq.1, hQz.1, by have := hq.2; omega⟩
  have hRb : RmB top z.S.Fr (K.n + 1) := hRm.elim (fun h => .inl ⟨h.1, by omega⟩) (fun h => .inr ⟨h.1, h.2.1, by omega⟩)
  exact kstep_of kb z.ib z.crb z.hob z.sb z.thb z.irb z.hm z.gm z.lm z.fb z.cb z.pb z.hb z.qb top z.t z.S z.l hz.hl.ok hz.tk hz.P hz.T 1 ts s 4 0 (by decide) (by omega) (by omega) (by omega) (by decide) T2 T2 T2_TP T2_TB T2_run T2_TP T2_TB T2_run T2_told (hf2 z.at9) 1 z.at9 (hf2_at _) th (by omega) q3 (ob 1 f9 g9) q4 1 (.inr rfl) 1 1 (by decide) (by decide) (by decide) casks1_ok (EX fun _ : Unit => pure' True (sepL [Fo.isF z.fb z.L z.last, mapF encU z.gm z.gf z.gn])) _ (fun _ => K.k) (fun _ => 0) _ (fun wa wc => (kdo_gate kb z.ib z.crb z.hob z.thb z.irb z.hm z.gm z.lm z.sb z.fb z.cb z.pb z.hb z.qb top z.t z.S z.l hz.hl.ok hz.tk hz.P hz.T s (by omega) K.lim z.u K.r hA0 hz.Q.2.2 hqr K.n hz.U hRb z.L z.last (by have := hz.la; have := hRm; omega) hs8 (th : Int) (by omega) f9 g9 q4 q5 w q6 hw9 0 r1 (hch z.u) (hz.hl.room hk) K.k (by omega) (fun o => by rw [(hz.hl.put hk o).1]) (fun o => by rw [(hz.hl.put hk o).1]; exact (hz.hl.put hk o).2.2) (fun o => by rw [(hz.hl.put hk o).1]; exact (hz.hl.put hk o).2.1.ok) z.gf z.gn (hz.mp K.k (Int.le_refl _)).1 ts wa wc T2 (hf2 z.at9) 1)) (fun _ h => absurd rfl h) ad cap) (fun z hz y hφ => ?_)
 ·try dsimp only at hφ
  obtain ⟨hM, hpl, hzz, ⟨d, d0, d1, hQ2⟩, hnx, hFr⟩ := hφ
  have hQz := hz.Q
  refine ⟨y.2, rfl, trivial, ?_⟩
  try dsimp only [List.cons_append, List.nil_append]
  refine ent_openAt 4 rfl (fun _ _ => ?_)
  rw [(hz.hl.put hk (ob 4 y.1.2.1 (w : Int))).1]
  refine ent_close ({ z with S := y.1.2.2, l := z.l.set K.k ⟨(ob 4 y.1.2.1 (w : Int)), 1, 0⟩, L := (Fo.addN z.L z.last 0 (1, (s : Int))).1, last := (Fo.addN z.L z.last 0 (1, (s : Int))).2.1, gf := updF z.gf (K.k : Int) (.pointer (some ⟨y.1.1, 0, none⟩)), gn := z.gn + 1, u := z.u + d + 0 } : KRec) (hz.made (K' := ⟨K.n + 1, K.k + 1, s :: K.us, r1, K.nx, K.fr, K.b + 304, K.lim, K.fs⟩) (o := (ob 4 y.1.2.1 (w : Int))) (by omega) hk hM (hz.us s (by omega) hsu) rfl rfl (addN_last _ _ _ _) (by rw [show ({ z with S := y.1.2.2, l := z.l.set K.k ⟨(ob 4 y.1.2.1 (w : Int)), 1, 0⟩, L := (Fo.addN z.L z.last 0 (1, (s : Int))).1, last := (Fo.addN z.L z.last 0 (1, (s : Int))).2.1, gf := updF z.gf (K.k : Int) (.pointer (some ⟨y.1.1, 0, none⟩)), gn := z.gn + 1, u := z.u + d + 0 } : KRec).S.Fr = _ from hFr]; exact hz.F) ⟨by show 0 ≤ z.u + d + 0; omega, by show z.u + d + 0 ≤ K.b + 304; omega, hQ2⟩ (hnx.trans hz.nx) (fun _ => .inl ⟨hk3, rfl⟩) rfl rfl rfl (fun x hx => .inl hx) (fun h hh => ⟨if_neg (by omega), rfl, rfl⟩)) ?_
  exact entS
theorem kst_irq (kb top : Nat) (K : KA) (s ts th w : Nat) (hx : (ts, th, w) ∈ K.fs) (hs8 : s < 128) (hsu : s ∉ K.us) (hq : (∀ x ∈ K.r, x.id ≠ 0) ∧ K.b + Qt.givQ K.r 0 + 1000 ≤ K.lim) (hRm : K.n + 1 ≤ 8 ∧ K.fr ≤ 8 ∨ K.n + 1 ≤ 76 ∧ top = 7 ∧ K.fr ≤ 40) (hk3 : 3 ≤ K.k) (hk : K.k < 256) (hw9 : w ≤ 40) (r1 : List Qt.Qn) (hch : ∀ u, ChQ K.lim u K.r w (clsz 5 : Int) 0 r1 0) (ad : Option Addr) (cap : Nat) : FSpec Tryz.prog 6 [.pointer (some ⟨kb, 0, none⟩), .agg #[.int .i64 0, .int .i64 0, .slice ad 2 cap]] GV [isKn kb top K, slc 31 1 ad 2 cap (wordsC 1 ts s 5 0)] (fun y : Option Addr × Nat => .agg #[.int .i64 0, .int .u64 (K.k : Int), .int .i64 2, .slice y.1 0 y.2]) (fun _ => True) (fun _ => [isKn kb top ⟨K.n + 1, K.k + 1, s :: K.us, r1, K.nx, K.fr, K.b + 304, K.lim, K.fs⟩, slc 31 1 ad 2 cap (wordsC 1 ts s 5 0)]) := by
 refine FSpec.lift2 (p := KInv top K) (pre := fun z => [pts kb 74 [.pointer (some ⟨z.ib, 0, none⟩)], pts z.ib 128 [.pointer (some ⟨z.crb, 0, none⟩), .pointer (some ⟨z.thb, 0, none⟩), .pointer (some ⟨z.irb, 0, none⟩), .map (some z.hm), .map (some z.gm), .map (some z.lm)], pts z.crb 133 [.pointer (some ⟨z.hob, 0, none⟩)], pts z.hob 131 [.pointer (some ⟨z.sb, 0, none⟩)], pts z.sb 117 [.pointer (some ⟨z.cb, 0, none⟩), .pointer (some ⟨z.fb, 0, none⟩)], pts z.cb 87 [.pointer (some ⟨z.pb, 0, none⟩), .pointer (some ⟨z.hb, 0, none⟩), .pointer (some ⟨z.qb, 0, none⟩)], isPl z.pb top z.S, slc 174 5 (some ⟨z.hb, 0, none⟩) 256 256 (Hd.tabC z.l), isT z.thb T2, mapF encU z.hm (hf2 z.at9) 1, (EX fun _ : Unit => pure' True (sepL [Fo.isF z.fb z.L z.last, isIq z.irb z.qf z.qn, mapF QM.encI z.lm z.lf z.ln])), slc 31 1 ad 2 cap (wordsC 1 ts s 5 0)]) (rest := fun z => [mapF encU z.gm z.gf z.gn, Gr.isQ z.qb z.pd 0 []]) (by kernel_rfl) (ent_openD fun z hz => (ent_take 0 rfl (ent_take 0 rfl (ent_take 0 rfl (ent_take 0 rfl (ent_take 0 rfl (ent_take 0 rfl (ent_take 0 rfl (ent_take 0 rfl (ent_take 0 rfl (ent_take 0 rfl (ent_close () trivial entS)))))))))))) gvF (fun z hz => by
  have hA0 := hz.us s (by omega) hsu
  obtain ⟨q1, q2, q3, f9, g9, q4, q5, q6⟩ := hz.fs _ hx
  try dsimp only at q1 q2 q3 q4 q6
  have hFz := hz.F
  have hQz := hz.Q
  have hqr : QR K.lim z.u K.r := ⟨hq.1, hQz.1, by have := hq.2; omega⟩
  have hRb : RmB top z.S.Fr (K.n + 1) := hRm.elim (fun h => .inl ⟨h.1, by omega⟩) (fun h => .inr ⟨h.1, h.2.1, by omega⟩)
  exact kstep_of kb z.ib z.crb z.hob z.sb z.thb z.irb z.hm z.gm z.lm z.fb z.cb z.pb z.hb z.qb top z.t z.S z.l hz.hl.ok hz.tk hz.P hz.T 1 ts s 5 0 (by decide) (by omega) (by omega) (by omega) (by decide) T2 T2 T2_TP T2_TB T2_run T2_TP T2_TB T2_run T2_told (hf2 z.at9) 1 z.at9 (hf2_at _) th (by omega) q3 (ob 1 f9 g9) q4 1 (.inr rfl) 1 1 (by decide) (by decide) (by decide) casks1_ok (EX fun _ : Unit => pure' True (sepL [Fo.isF z.fb z.L z.last, isIq z.irb z.qf z.qn, mapF QM.encI z.lm z.lf z.ln])) _ (fun _ => K.k) (fun _ => 0) _ (fun wa wc => (kdo_irq kb z.ib z.crb z.hob z.thb z.irb z.hm z.gm z.lm z.sb z.fb z.cb z.pb z.hb z.qb top z.t z.S z.l hz.hl.ok hz.tk hz.P hz.T s (by omega) K.lim z.u K.r hA0 hz.Q.2.2 hqr K.n hz.U hRb z.L z.last (by have := hz.la; have := hRm; omega) hs8 (th : Int) (by omega) f9 g9 q4 q5 w q6 hw9 0 r1 (hch z.u) (hz.hl.room hk) K.k (by omega) (fun o => by rw [(hz.hl.put hk o).1]) (fun o => by rw [(hz.hl.put hk o).1]; exact (hz.hl.put hk o).2.2) (fun o => by rw [(hz.hl.put hk o).1]; exact (hz.hl.put hk o).2.1.ok) z.qf z.lf z.qn z.ln (hz.mp K.k (Int.le_refl _)).2.1 (hz.mp K.k (Int.le_refl _)).2.2 ts wa wc T2 (hf2 z.at9) 1)) (fun _ h => absurd rfl h) ad cap) (fun z hz y hφ => ?_)
 ·try dsimp only at hφ
  obtain ⟨hM, hpl, hzz, ⟨d, d0, d1, hQ2⟩, hnx, hFr⟩ := hφ
  have hQz := hz.Q
  refine ⟨y.2, rfl, trivial, ?_⟩
  try dsimp only [List.cons_append, List.nil_append]
  refine ent_openAt 4 rfl (fun _ _ => ?_)
  rw [(hz.hl.put hk (ob 5 y.1.2.1 (w : Int))).1]
  refine ent_close ({ z with S := y.1.2.2, l := z.l.set K.k ⟨(ob 5 y.1.2.1 (w : Int)), 1, 0⟩, L := (Fo.addN z.L z.last 0 (1, (s : Int))).1, last := (Fo.addN z.L z.last 0 (1, (s : Int))).2.1, qf := updF z.qf (K.k : Int) (.pointer (some ⟨y.1.1, 0, none⟩)), qn := z.qn + 1, lf := updF z.lf (K.k : Int) (.int .u64 0), ln := z.ln + 1, u := z.u + d + 0 } : KRec) (hz.made (K' := ⟨K.n + 1, K.k + 1, s :: K.us, r1, K.nx, K.fr, K.b + 304, K.lim, K.fs⟩) (o := (ob 5 y.1.2.1 (w : Int))) (by omega) hk hM (hz.us s (by omega) hsu) rfl rfl (addN_last _ _ _ _) (by rw [show ({ z with S := y.1.2.2, l := z.l.set K.k ⟨(ob 5 y.1.2.1 (w : Int)), 1, 0⟩, L := (Fo.addN z.L z.last 0 (1, (s : Int))).1, last := (Fo.addN z.L z.last 0 (1, (s : Int))).2.1, qf := updF z.qf (K.k : Int) (.pointer (some ⟨y.1.1, 0, none⟩)), qn := z.qn + 1, lf := updF z.lf (K.k : Int) (.int .u64 0), ln := z.ln + 1, u := z.u + d + 0 } : KRec).S.Fr = _ from hFr]; exact hz.F) ⟨by show 0 ≤ z.u + d + 0; omega, by show z.u + d + 0 ≤ K.b + 304; omega, hQ2⟩ (hnx.trans hz.nx) (fun _ => .inl ⟨hk3, rfl⟩) rfl rfl rfl (fun x hx => .inl hx) (fun h hh => ⟨rfl, if_neg (by omega), if_neg (by omega)⟩)) ?_
  exact entS
theorem kst_fr (kb top : Nat) (K : KA) (s ts th w : Nat) (hx : (ts, th, w) ∈ K.fs) (hs8 : 128 ≤ s) (hs : s < 256) (hsu : s ∉ K.us) (hq : (∀ x ∈ K.r, x.id ≠ 0) ∧ K.b + Qt.givQ K.r 0 + 1000 ≤ K.lim) (hRm : K.n + 1 ≤ 8 ∧ K.fr ≤ 8 ∨ K.n + 1 ≤ 76 ∧ top = 7 ∧ K.fr ≤ 40) (hk3 : 3 ≤ K.k) (hk : K.k < 256) (hw9 : w ≤ 40) (r1 : List Qt.Qn) (hch : ∀ u, ChQ K.lim u K.r w 1024 0 r1 0) (ad : Option Addr) (cap : Nat) : FSpec Tryz.prog 6 [.pointer (some ⟨kb, 0, none⟩), .agg #[.int .i64 0, .int .i64 0, .slice ad 2 cap]] GV [isKn kb top K, slc 31 1 ad 2 cap (wordsC 1 ts s 8 0)] (fun y : Option Addr × Nat => .agg #[.int .i64 0, .int .u64 (K.k : Int), .int .i64 2, .slice y.1 0 y.2]) (fun _ => True) (fun _ => [isKn kb top ⟨K.n + 1, K.k + 1, s :: K.us, r1, K.nx, K.fr + 1, K.b + 304, K.lim, K.fs⟩, slc 31 1 ad 2 cap (wordsC 1 ts s 8 0)]) := by
 refine FSpec.lift2 (p := KInv top K) (pre := fun z => [pts kb 74 [.pointer (some ⟨z.ib, 0, none⟩)], pts z.ib 128 [.pointer (some ⟨z.crb, 0, none⟩), .pointer (some ⟨z.thb, 0, none⟩), .pointer (some ⟨z.irb, 0, none⟩), .map (some z.hm), .map (some z.gm), .map (some z.lm)], pts z.crb 133 [.pointer (some ⟨z.hob, 0, none⟩)], pts z.hob 131 [.pointer (some ⟨z.sb, 0, none⟩)], pts z.sb 117 [.pointer (some ⟨z.cb, 0, none⟩), .pointer (some ⟨z.fb, 0, none⟩)], pts z.cb 87 [.pointer (some ⟨z.pb, 0, none⟩), .pointer (some ⟨z.hb, 0, none⟩), .pointer (some ⟨z.qb, 0, none⟩)], isPl z.pb top z.S, slc 174 5 (some ⟨z.hb, 0, none⟩) 256 256 (Hd.tabC z.l), isT z.thb T2, mapF encU z.hm (hf2 z.at9) 1, (EX fun _ : Unit => pure' True (sepL [Fo.isF z.fb z.L z.last])), slc 31 1 ad 2 cap (wordsC 1 ts s 8 0)]) (rest := fun z => [mapF encU z.gm z.gf z.gn, isIq z.irb z.qf z.qn, mapF QM.encI z.lm z.lf z.ln, Gr.isQ z.qb z.pd 0 []]) (by kernel_rfl) (ent_openD fun z hz => (ent_take 0 rfl (ent_take 0 rfl (ent_take 0 rfl (ent_take 0 rfl (ent_take 0 rfl (ent_take 0 rfl (ent_take 0 rfl (ent_take 0 rfl (ent_take 0 rfl (ent_take 0 rfl (ent_close () trivial entS)))))))))))) gvF (fun z hz => by
  have hA0 := hz.us s (by omega) hsu
  obtain ⟨q1, q2, q3, f9, g9, q4, q5, q6⟩ := hz.fs _ hx
  try dsimp only at q1 q2 q3 q4 q6
  have hFz := hz.F
  have hQz := hz.Q
  have hqr : QR K.lim z.u K.r := ⟨hq.1, hQz.1, by have := hq.2; omega⟩
  have hRb : RmB top z.S.Fr (K.n + 1) := hRm.elim (fun h => .inl ⟨h.1, by omega⟩) (fun h => .inr ⟨h.1, h.2.1, by omega⟩)
  exact kstep_of kb z.ib z.crb z.hob z.sb z.thb z.irb z.hm z.gm z.lm z.fb z.cb z.pb z.hb z.qb top z.t z.S z.l hz.hl.ok hz.tk hz.P hz.T 1 ts s 8 0 (by decide) (by omega) (by omega) (by omega) (by decide) T2 T2 T2_TP T2_TB T2_run T2_TP T2_TB T2_run T2_told (hf2 z.at9) 1 z.at9 (hf2_at _) th (by omega) q3 (ob 1 f9 g9) q4 1 (.inr rfl) 1 1 (by decide) (by decide) (by decide) casks1_ok (EX fun _ : Unit => pure' True (sepL [Fo.isF z.fb z.L z.last])) _ (fun _ => K.k) (fun _ => 0) _ (fun wa wc => (kdo_fr kb z.ib z.crb z.hob z.thb z.irb z.hm z.gm z.lm z.sb z.fb z.cb z.pb z.hb z.qb top z.t z.S z.l hz.hl.ok hz.tk hz.P hz.T s (by omega) K.lim z.u K.r hA0 hz.Q.2.2 hqr K.n hz.U hRb z.L z.last (by have := hz.la; have := hRm; omega) hs8 (th : Int) (by omega) f9 g9 q4 q5 w q6 hw9 0 r1 (hch z.u) (hz.hl.room hk) K.k (by omega) (fun o => by rw [(hz.hl.put hk o).1]) (fun o => by rw [(hz.hl.put hk o).1]; exact (hz.hl.put hk o).2.2) (fun o => by rw [(hz.hl.put hk o).1]; exact (hz.hl.put hk o).2.1.ok) ts wa wc T2 (hf2 z.at9) 1)) (fun _ h => absurd rfl h) ad cap) (fun z hz y hφ => ?_)
 ·try dsimp only at hφ
  obtain ⟨hM, hFr, ⟨d, d0, d1, hQ2⟩, hnx⟩ := hφ
  have hQz := hz.Q
  refine ⟨y.2, rfl, trivial, ?_⟩
  try dsimp only [List.cons_append, List.nil_append]
  refine ent_openAt 4 rfl (fun _ _ => ?_)
  rw [(hz.hl.put hk (ob 8 (y.1.1 * 1024) (w : Int))).1]
  refine ent_close ({ z with S := y.1.2, l := z.l.set K.k ⟨(ob 8 (y.1.1 * 1024) (w : Int)), 1, 0⟩, L := (Fo.addN z.L z.last 0 (1, (s : Int))).1, last := (Fo.addN z.L z.last 0 (1, (s : Int))).2.1, u := z.u + d + 0 } : KRec) (hz.made (K' := ⟨K.n + 1, K.k + 1, s :: K.us, r1, K.nx, K.fr + 1, K.b + 304, K.lim, K.fs⟩) (o := (ob 8 (y.1.1 * 1024) (w : Int))) (by omega) hk hM (hz.us s (by omega) hsu) rfl rfl (addN_last _ _ _ _) (by rw [show ({ z with S := y.1.2, l := z.l.set K.k ⟨(ob 8 (y.1.1 * 1024) (w : Int)), 1, 0⟩, L := (Fo.addN z.L z.last 0 (1, (s : Int))).1, last := (Fo.addN z.L z.last 0 (1, (s : Int))).2.1, u := z.u + d + 0 } : KRec).S.Fr = _ from hFr]; have := hz.F; simp only [List.length_cons]; omega) ⟨by show 0 ≤ z.u + d + 0; omega, by show z.u + d + 0 ≤ K.b + 304; omega, hQ2⟩ (hnx.trans hz.nx) (fun _ => .inl ⟨hk3, rfl⟩) rfl rfl rfl (fun x hx => .inl hx) (fun h hh => ⟨rfl, rfl, rfl⟩)) ?_
  exact entS
theorem kst_no (kb top : Nat) (K : KA) (s ts th w : Nat) (hx : (ts, th, w) ∈ K.fs) (hs8 : s < 128) (hsu : s ∉ K.us) (hq : (∀ x ∈ K.r, x.id ≠ 0) ∧ K.b + Qt.givQ K.r 0 + 1000 ≤ K.lim) (hRm : K.n + 1 ≤ 8 ∧ K.fr ≤ 8 ∨ K.n + 1 ≤ 76 ∧ top = 7 ∧ K.fr ≤ 40) (hk3 : 3 ≤ K.k) (hk : K.k < 256) (hw9 : w ≤ 40) (r1 : List Qt.Qn) (c : Nat) (hc2 : 2 ≤ c ∧ c ≤ 5) (hc3 : c ≠ 3) (hch : ∀ u, ChQ K.lim u K.r w (clsz c : Int) 0 r1 5) (ad : Option Addr) (cap : Nat) : FSpec Tryz.prog 6 [.pointer (some ⟨kb, 0, none⟩), .agg #[.int .i64 0, .int .i64 0, .slice ad 2 cap]] GV [isKn kb top K, slc 31 1 ad 2 cap (wordsC 1 ts s c 0)] (fun y : Option Addr × Nat => .agg #[.int .i64 5, .int .u64 ((0 : Nat) : Int), .int .i64 2, .slice y.1 0 y.2]) (fun _ => True) (fun _ => [isKn kb top K, slc 31 1 ad 2 cap (wordsC 1 ts s c 0)]) := by
 refine FSpec.lift2 (p := KInv top K) (pre := fun z => [pts kb 74 [.pointer (some ⟨z.ib, 0, none⟩)], pts z.ib 128 [.pointer (some ⟨z.crb, 0, none⟩), .pointer (some ⟨z.thb, 0, none⟩), .pointer (some ⟨z.irb, 0, none⟩), .map (some z.hm), .map (some z.gm), .map (some z.lm)], pts z.crb 133 [.pointer (some ⟨z.hob, 0, none⟩)], pts z.hob 131 [.pointer (some ⟨z.sb, 0, none⟩)], pts z.sb 117 [.pointer (some ⟨z.cb, 0, none⟩), .pointer (some ⟨z.fb, 0, none⟩)], pts z.cb 87 [.pointer (some ⟨z.pb, 0, none⟩), .pointer (some ⟨z.hb, 0, none⟩), .pointer (some ⟨z.qb, 0, none⟩)], isPl z.pb top z.S, slc 174 5 (some ⟨z.hb, 0, none⟩) 256 256 (Hd.tabC z.l), isT z.thb T2, mapF encU z.hm (hf2 z.at9) 1, (EX fun _ : Unit => pure' True (sepL [Fo.isF z.fb z.L z.last])), slc 31 1 ad 2 cap (wordsC 1 ts s c 0)]) (rest := fun z => [mapF encU z.gm z.gf z.gn, isIq z.irb z.qf z.qn, mapF QM.encI z.lm z.lf z.ln, Gr.isQ z.qb z.pd 0 []]) (by kernel_rfl) (ent_openD fun z hz => (ent_take 0 rfl (ent_take 0 rfl (ent_take 0 rfl (ent_take 0 rfl (ent_take 0 rfl (ent_take 0 rfl (ent_take 0 rfl (ent_take 0 rfl (ent_take 0 rfl (ent_take 0 rfl (ent_close () trivial entS)))))))))))) gvF (fun z hz => by
  have hA0 := hz.us s (by omega) hsu
  obtain ⟨q1, q2, q3, f9, g9, q4, q5, q6⟩ := hz.fs _ hx
  try dsimp only at q1 q2 q3 q4 q6
  have hFz := hz.F
  have hQz := hz.Q
  have hqr : QR K.lim z.u K.r := ⟨hq.1, hQz.1, by have := hq.2; omega⟩
  have hRb : RmB top z.S.Fr (K.n + 1) := hRm.elim (fun h => .inl ⟨h.1, by omega⟩) (fun h => .inr ⟨h.1, h.2.1, by omega⟩)
  exact kstep_of kb z.ib z.crb z.hob z.sb z.thb z.irb z.hm z.gm z.lm z.fb z.cb z.pb z.hb z.qb top z.t z.S z.l hz.hl.ok hz.tk hz.P hz.T 1 ts s c 0 (by decide) (by omega) (by omega) (by omega) (by decide) T2 T2 T2_TP T2_TB T2_run T2_TP T2_TB T2_run T2_told (hf2 z.at9) 1 z.at9 (hf2_at _) th (by omega) q3 (ob 1 f9 g9) q4 1 (.inr rfl) 1 1 (by decide) (by decide) (by decide) casks1_ok (EX fun _ : Unit => pure' True (sepL [Fo.isF z.fb z.L z.last])) _ (fun _ => 0) (fun _ => 5) _ (fun wa wc => (kdo_no kb z.ib z.crb z.hob z.thb z.irb z.hm z.gm z.lm z.sb z.fb z.cb z.pb z.hb z.qb top z.t z.S z.l hz.hl.ok hz.tk hz.P hz.T s (by omega) K.lim z.u K.r hA0 hz.Q.2.2 hqr K.n hz.U hRb z.L z.last (by have := hz.la; have := hRm; omega) hs8 (th : Int) (by omega) f9 g9 q4 q5 w q6 hw9 c hc2 5 0 r1 (hch z.u) (by decide) hc3 ts wa wc T2 (hf2 z.at9) 1)) (fun _ _ => rfl) ad cap) (fun z hz y hφ => ?_)
 ·try dsimp only at hφ
  refine ⟨y.2, rfl, trivial, ?_⟩
  try dsimp only [List.cons_append, List.nil_append]
  refine ent_openAt 4 rfl (fun _ _ => ?_)
  refine ent_close ({ z with S := y.1 } : KRec) (hz.back hφ rfl rfl rfl rfl rfl rfl rfl rfl) ?_
  exact entS
theorem kst_nofr (kb top : Nat) (K : KA) (s ts th w : Nat) (hx : (ts, th, w) ∈ K.fs) (hs8 : 128 ≤ s) (hs : s < 256) (hsu : s ∉ K.us) (hq : (∀ x ∈ K.r, x.id ≠ 0) ∧ K.b + Qt.givQ K.r 0 + 1000 ≤ K.lim) (hRm : K.n + 1 ≤ 8 ∧ K.fr ≤ 8 ∨ K.n + 1 ≤ 76 ∧ top = 7 ∧ K.fr ≤ 40) (hk3 : 3 ≤ K.k) (hk : K.k < 256) (hw9 : w ≤ 40) (r1 : List Qt.Qn) (hch : ∀ u, ChQ K.lim u K.r w 1024 0 r1 5) (ad : Option Addr) (cap : Nat) : FSpec Tryz.prog 6 [.pointer (some ⟨kb, 0, none⟩), .agg #[.int .i64 0, .int .i64 0, .slice ad 2 cap]] GV [isKn kb top K, slc 31 1 ad 2 cap (wordsC 1 ts s 8 0)] (fun y : Option Addr × Nat => .agg #[.int .i64 5, .int .u64 ((0 : Nat) : Int), .int .i64 2, .slice y.1 0 y.2]) (fun _ => True) (fun _ => [isKn kb top K, slc 31 1 ad 2 cap (wordsC 1 ts s 8 0)]) := by
 refine FSpec.lift2 (p := KInv top K) (pre := fun z => [pts kb 74 [.pointer (some ⟨z.ib, 0, none⟩)], pts z.ib 128 [.pointer (some ⟨z.crb, 0, none⟩), .pointer (some ⟨z.thb, 0, none⟩), .pointer (some ⟨z.irb, 0, none⟩), .map (some z.hm), .map (some z.gm), .map (some z.lm)], pts z.crb 133 [.pointer (some ⟨z.hob, 0, none⟩)], pts z.hob 131 [.pointer (some ⟨z.sb, 0, none⟩)], pts z.sb 117 [.pointer (some ⟨z.cb, 0, none⟩), .pointer (some ⟨z.fb, 0, none⟩)], pts z.cb 87 [.pointer (some ⟨z.pb, 0, none⟩), .pointer (some ⟨z.hb, 0, none⟩), .pointer (some ⟨z.qb, 0, none⟩)], isPl z.pb top z.S, slc 174 5 (some ⟨z.hb, 0, none⟩) 256 256 (Hd.tabC z.l), isT z.thb T2, mapF encU z.hm (hf2 z.at9) 1, (EX fun _ : Unit => pure' True (sepL [Fo.isF z.fb z.L z.last])), slc 31 1 ad 2 cap (wordsC 1 ts s 8 0)]) (rest := fun z => [mapF encU z.gm z.gf z.gn, isIq z.irb z.qf z.qn, mapF QM.encI z.lm z.lf z.ln, Gr.isQ z.qb z.pd 0 []]) (by kernel_rfl) (ent_openD fun z hz => (ent_take 0 rfl (ent_take 0 rfl (ent_take 0 rfl (ent_take 0 rfl (ent_take 0 rfl (ent_take 0 rfl (ent_take 0 rfl (ent_take 0 rfl (ent_take 0 rfl (ent_take 0 rfl (ent_close () trivial entS)))))))))))) gvF (fun z hz => by
  have hA0 := hz.us s (by omega) hsu
  obtain ⟨q1, q2, q3, f9, g9, q4, q5, q6⟩ := hz.fs _ hx
  try dsimp only at q1 q2 q3 q4 q6
  have hFz := hz.F
  have hQz := hz.Q
  have hqr : QR K.lim z.u K.r := ⟨hq.1, hQz.1, by have := hq.2; omega⟩
  have hRb : RmB top z.S.Fr (K.n + 1) := hRm.elim (fun h => .inl ⟨h.1, by omega⟩) (fun h => .inr ⟨h.1, h.2.1, by omega⟩)
  exact kstep_of kb z.ib z.crb z.hob z.sb z.thb z.irb z.hm z.gm z.lm z.fb z.cb z.pb z.hb z.qb top z.t z.S z.l hz.hl.ok hz.tk hz.P hz.T 1 ts s 8 0 (by decide) (by omega) (by omega) (by omega) (by decide) T2 T2 T2_TP T2_TB T2_run T2_TP T2_TB T2_run T2_told (hf2 z.at9) 1 z.at9 (hf2_at _) th (by omega) q3 (ob 1 f9 g9) q4 1 (.inr rfl) 1 1 (by decide) (by decide) (by decide) casks1_ok (EX fun _ : Unit => pure' True (sepL [Fo.isF z.fb z.L z.last])) _ (fun _ => 0) (fun _ => 5) _ (fun wa wc => (kdo_nofr kb z.ib z.crb z.hob z.thb z.irb z.hm z.gm z.lm z.sb z.fb z.cb z.pb z.hb z.qb top z.t z.S z.l hz.hl.ok hz.tk hz.P hz.T s (by omega) K.lim z.u K.r hA0 hz.Q.2.2 hqr K.n hz.U hRb z.L z.last (by have := hz.la; have := hRm; omega) hs8 (th : Int) (by omega) f9 g9 q4 q5 w q6 hw9 5 0 r1 (hch z.u) (by decide) ts wa wc T2 (hf2 z.at9) 1)) (fun _ _ => rfl) ad cap) (fun z hz y hφ => ?_)
 ·try dsimp only at hφ
  refine ⟨y.2, rfl, trivial, ?_⟩
  try dsimp only [List.cons_append, List.nil_append]
  refine ent_openAt 4 rfl (fun _ _ => ?_)
  refine ent_close ({ z with S := y.1 } : KRec) (hz.back hφ rfl rfl rfl rfl rfl rfl rfl rfl) ?_
  exact entS
end Go.Proofs.YtnlgmaibhlicjaaGreatDoor
namespace Go.Proofs.YtnlgmaibhlicjaaGreatDoor
open Go Go.QM
set_option maxRecDepth 4000
theorem carve0 {lim u lm nx : Int} {r : List Qt.Qn} (h0 : 0 ≤ lm) (hl : u + Qt.givQ r 0 + lm ≤ lim) (hn : r.length ≤ 30) : Qt.carveQ (⟨0, -1, lim, u⟩ :: r) nx 0 lm = (⟨0, -1, lim, u⟩ :: (r ++ [⟨nx, 0, lm, 0⟩]), nx + 1, nx, 0) := by
 have e1 : Qt.limQ (⟨0, -1, lim, u⟩ :: r) 0 = lim := by rw [Qt.limQ, find0]
 have e2 : Qt.useQ (⟨0, -1, lim, u⟩ :: r) 0 = u + Qt.givQ r 0 := by rw [Qt.useQ, find0, giv0]
 rw [Qt.carveQ, if_neg (fun h => h (has0 lim u r)), if_neg (by omega), e1, e2, if_neg (by omega), if_neg (by simp only [List.length_cons]; omega)]
 rfl
theorem kst_fac (kb top : Nat) (K : KA) (s ts th : Nat) (hx : (ts, th, 0) ∈ K.fs) (hs8 : s < 128) (hsu : s ∉ K.us) (x9 : Nat) (hx9 : x9 ≤ 1000000) (hq : (∀ x ∈ K.r, x.id ≠ 0) ∧ K.b + Qt.givQ K.r 0 + 1000 + x9 ≤ K.lim) (hrl : K.r.length ≤ 30) (hRm : K.n + 1 ≤ 8 ∧ K.fr ≤ 8 ∨ K.n + 1 ≤ 76 ∧ top = 7 ∧ K.fr ≤ 40) (hk3 : 3 ≤ K.k) (hk : K.k < 256) (idn : Nat) (hid : idn ≤ 1000000) (hidn : K.nx = idn) (ad : Option Addr) (cap : Nat) : FSpec Tryz.prog 6 [.pointer (some ⟨kb, 0, none⟩), .agg #[.int .i64 0, .int .i64 0, .slice ad 2 cap]] GV [isKn kb top K, slc 31 1 ad 2 cap (wordsC 1 ts s 1 x9)] (fun y : Option Addr × Nat => .agg #[.int .i64 0, .int .u64 (K.k : Int), .int .i64 2, .slice y.1 0 y.2]) (fun _ => True) (fun _ => [isKn kb top ⟨K.n + 1, K.k + 1, s :: K.us, K.r ++ [⟨K.nx, 0, (x9 : Int), 0⟩], K.nx + 1, K.fr, K.b + 368, K.lim, (s, K.k, idn) :: K.fs⟩, slc 31 1 ad 2 cap (wordsC 1 ts s 1 x9)]) := by
 refine FSpec.lift2 (p := KInv top K) (pre := fun z => [pts kb 74 [.pointer (some ⟨z.ib, 0, none⟩)], pts z.ib 128 [.pointer (some ⟨z.crb, 0, none⟩), .pointer (some ⟨z.thb, 0, none⟩), .pointer (some ⟨z.irb, 0, none⟩), .map (some z.hm), .map (some z.gm), .map (some z.lm)], pts z.crb 133 [.pointer (some ⟨z.hob, 0, none⟩)], pts z.hob 131 [.pointer (some ⟨z.sb, 0, none⟩)], pts z.sb 117 [.pointer (some ⟨z.cb, 0, none⟩), .pointer (some ⟨z.fb, 0, none⟩)], pts z.cb 87 [.pointer (some ⟨z.pb, 0, none⟩), .pointer (some ⟨z.hb, 0, none⟩), .pointer (some ⟨z.qb, 0, none⟩)], isPl z.pb top z.S, slc 174 5 (some ⟨z.hb, 0, none⟩) 256 256 (Hd.tabC z.l), isT z.thb T2, mapF encU z.hm (hf2 z.at9) 1, (EX fun _ : Unit => pure' True (sepL [Fo.isF z.fb z.L z.last])), slc 31 1 ad 2 cap (wordsC 1 ts s 1 x9)]) (rest := fun z => [mapF encU z.gm z.gf z.gn, isIq z.irb z.qf z.qn, mapF QM.encI z.lm z.lf z.ln, Gr.isQ z.qb z.pd 0 []]) (by kernel_rfl) (ent_openD fun z hz => (ent_take 0 rfl (ent_take 0 rfl (ent_take 0 rfl (ent_take 0 rfl (ent_take 0 rfl (ent_take 0 rfl (ent_take 0 rfl (ent_take 0 rfl (ent_take 0 rfl (ent_take 0 rfl (ent_close () trivial entS)))))))))))) gvF (fun z hz => by
  have hA0 := hz.us s (by omega) hsu
  obtain ⟨q1, q2, q3, f9, g9, q4, q5, q6⟩ := hz.fs _ hx
  try dsimp only at q1 q2 q3 q4 q6
  have hFz := hz.F
  have hQz := hz.Q
  have hqr : QR K.lim z.u K.r := ⟨hq.1, hQz.1, by have := hq.2; omega⟩
  have hRb : RmB top z.S.Fr (K.n + 1) := hRm.elim (fun h => .inl ⟨h.1, by omega⟩) (fun h => .inr ⟨h.1, h.2.1, by omega⟩)
  have hch9 : ChQ K.lim z.u K.r 0 64 64 K.r 0 := fun v h1 h2 => charge0 hq.1 (by decide) (by have := hq.2; omega)
  have hcv9 : ∀ v, z.u ≤ v → v ≤ z.u + 304 → Qt.carveQ (⟨0, -1, K.lim, v + 64⟩ :: K.r) z.S.nx ((0 : Nat) : Int) (x9 : Int) = (⟨0, -1, K.lim, v + 64⟩ :: (K.r ++ [⟨K.nx, 0, (x9 : Int), 0⟩]), z.S.nx + 1, (idn : Int), 0) := fun v h1 h2 => by
   have := carve0 (lim := K.lim) (u := v + 64) (lm := x9) (nx := K.nx) (r := K.r) (by omega) (by have := hq.2; omega) hrl
   rw [hz.nx, ← hidn]; exact this
  exact kstep_of kb z.ib z.crb z.hob z.sb z.thb z.irb z.hm z.gm z.lm z.fb z.cb z.pb z.hb z.qb top z.t z.S z.l hz.hl.ok hz.tk hz.P hz.T 1 ts s 1 x9 (by decide) (by omega) (by omega) (by omega) (by omega) T2 T2 T2_TP T2_TB T2_run T2_TP T2_TB T2_run T2_told (hf2 z.at9) 1 z.at9 (hf2_at _) th (by omega) q3 (ob 1 f9 g9) q4 1 (.inr rfl) 1 1 (by decide) (by decide) (by decide) casks1_ok (EX fun _ : Unit => pure' True (sepL [Fo.isF z.fb z.L z.last])) _ (fun _ => K.k) (fun _ => 0) _ (fun wa wc => (kdo_fac kb z.ib z.crb z.hob z.thb z.irb z.hm z.gm z.lm z.sb z.fb z.cb z.pb z.hb z.qb top z.t z.S z.l hz.hl.ok hz.tk hz.P hz.T s (by omega) K.lim z.u K.r hA0 hz.Q.2.2 hqr K.n hz.U hRb z.L z.last (by have := hz.la; have := hRm; omega) hs8 (th : Int) (by omega) f9 g9 q4 q5 0 q6 (by decide) x9 (by omega) 64 K.r hch9 (hz.hl.room hk) K.k (by omega) (fun o => by rw [(hz.hl.put hk o).1]) (by rw [hz.nx, hidn]; omega) idn hid (K.r ++ [⟨K.nx, 0, (x9 : Int), 0⟩]) hcv9 (fun o => by rw [(hz.hl.put hk o).1]; exact (hz.hl.put hk o).2.2) (fun o => by rw [(hz.hl.put hk o).1]; exact (hz.hl.put hk o).2.1.ok) ts wa wc T2 (hf2 z.at9) 1)) (fun _ h => absurd rfl h) ad cap) (fun z hz y hφ => ?_)
 ·try dsimp only at hφ
  obtain ⟨hM, hpl, hzz, ⟨d, d0, d1, hQ2⟩, hnx, hFr⟩ := hφ
  have hQz := hz.Q
  refine ⟨y.2, rfl, trivial, ?_⟩
  try dsimp only [List.cons_append, List.nil_append]
  refine ent_openAt 4 rfl (fun _ _ => ?_)
  rw [(hz.hl.put hk (ob 1 y.1.1 ((0 : Nat) : Int))).1]
  refine ent_close ({ z with S := y.1.2, l := z.l.set K.k ⟨(ob 1 y.1.1 ((0 : Nat) : Int)), 1, 0⟩, L := (Fo.addN z.L z.last 0 (1, (s : Int))).1, last := (Fo.addN z.L z.last 0 (1, (s : Int))).2.1, u := z.u + d + 64 } : KRec) (hz.made (K' := ⟨K.n + 1, K.k + 1, s :: K.us, K.r ++ [⟨K.nx, 0, (x9 : Int), 0⟩], K.nx + 1, K.fr, K.b + 368, K.lim, (s, K.k, idn) :: K.fs⟩) (o := (ob 1 y.1.1 ((0 : Nat) : Int))) (by omega) hk hM (hz.us s (by omega) hsu) rfl rfl (addN_last _ _ _ _) (by rw [show ({ z with S := y.1.2, l := z.l.set K.k ⟨(ob 1 y.1.1 ((0 : Nat) : Int)), 1, 0⟩, L := (Fo.addN z.L z.last 0 (1, (s : Int))).1, last := (Fo.addN z.L z.last 0 (1, (s : Int))).2.1, u := z.u + d + 64 } : KRec).S.Fr = _ from hFr]; exact hz.F) ⟨by show 0 ≤ z.u + d + 64; omega, by show z.u + d + 64 ≤ K.b + 368; omega, hQ2⟩ (by show y.1.2.nx = K.nx + 1; rw [hnx, hz.nx]) (fun _ => .inl ⟨hk3, rfl⟩) rfl rfl rfl (fun x hx => ?_) (fun h hh => ⟨rfl, rfl, rfl⟩)) ?_
  ·rcases List.mem_cons.1 hx with h | h
   ·subst h; exact .inr ⟨rfl, rfl, y.1.1, rfl, hpl, hzz⟩
   ·exact .inl h
  exact entS
theorem HL.zero : HL (List.replicate 256 Hd.zeroPl) 0 := ⟨List.length_replicate, fun i hi => absurd hi (Nat.not_lt_zero i), fun i _ hi => ⟨⟨0, 0, 0⟩, by rw [List.getElem?_replicate, if_pos hi]; rfl⟩⟩
def l1 (a : Nat) : List Hd.Pl := (List.replicate 256 Hd.zeroPl).set 0 ⟨ob 1 a 0, 1, 0⟩
theorem l1_put (a : Nat) : Hd.putR (List.replicate 256 Hd.zeroPl) (ob 1 a 0) = (l1 a, 0, 0) := (HL.zero.put (by decide) _).1
theorem l1_HL (a : Nat) : HL (l1 a) 1 := (HL.zero.put (by decide) _).2.1
theorem l1_get (a : Nat) : Hd.getR (l1 a) 0 = (ob 1 a 0, 0) := (HL.zero.put (by decide) (ob 1 a 0)).2.2
structure CoN where
  cb : Nat
  pb : Nat
  hb : Nat
  qb : Nat
  a : Nat
  S : PS
structure N1 (top : Nat) (lim : Int) (y : CoN) : Prop where
  P : PInv top y.S
  Q : y.S.Q = [⟨0, -1, lim, 64⟩]
  nx : y.S.nx = 1
  Fr : y.S.Fr = []
  pl : Plc 64 (y.S.C 1) y.a
  z : ldW y.S.m y.a = 0
  U : ∀ d, usd y.S.C d = if d = 1 then 1 else 0
theorem S0_room {top : Nat} (lim : Int) : (pgs (S0 lim).C (S0 lim).Fr).length < 2 ^ top := by
 rw [S0, pgs_nil _ fun _ => rfl]; exact Nat.pow_pos (by decide)
theorem S0_charge {lim : Int} (h : 1000 ≤ lim) : Qt.chargeQ (S0 lim).Q 0 (clsz 1 : Int) = ([⟨0, -1, lim, 64⟩], 0) := by
 have := charge0 (lim := lim) (u := 0) (c := 64) (r := []) (fun x h => by cases h) (by decide) (by show 0 + 0 + 64 ≤ lim; omega)
 exact this
theorem N1.of {top : Nat} {lim : Int} (h67 : 6 ≤ top ∧ top ≤ 7) {y : Nat × Nat × List Pg} (g : GotP top (S0 lim) 1 y) {z : CoN} (ha : z.a = addr 1 y) (hS : z.S = ⟨[⟨0, -1, lim, 64⟩], 1, updN (S0 lim).C 1 y.2.2, [], zB (S0 lim).m (addr 1 y) 64⟩) : N1 top lim z := by
 refine ⟨?_, by rw [hS], by rw [hS], by rw [hS], by rw [hS, ha]; exact (g.plc (d := 1) (by decide)).2 (.inr ⟨rfl, rfl⟩), by rw [hS, ha]; exact ldW_zB (Nat.le_refl _) (by omega), fun d => ?_⟩
 ·exact g.re (S' := z.S) (by rw [hS]) (by rw [hS]; rfl)
 ·rw [hS]
  have := usd_got (by decide) g d
  rw [show usd (⟨[⟨0, -1, lim, 64⟩], 1, updN (S0 lim).C 1 y.2.2, [], zB (S0 lim).m (addr 1 y) 64⟩ : PS).C d = usd (updN (S0 lim).C 1 y.2.2) d from rfl, this]
  have h0 : usd (S0 lim).C d = 0 := rfl
  rw [h0, Nat.zero_add]
theorem conew_ok (n top : Nat) (lim : Int) (h67 : n = 65536 ∧ top = 6 ∨ n = 131072 ∧ top = 7) (hl : 0 ≤ lim ∧ lim ≤ n) (hl9 : 1000 ≤ lim) (pd : Int) (hp1 : 1 ≤ pd) (hp2 : pd ≤ 16) : FSpec Tryz.prog 15 [.int .i64 (n : Int), .int .i64 lim, .int .i64 pd] GV [] (fun y : CoN => .pointer (some ⟨y.cb, 0, none⟩)) (fun y => N1 top lim y) (fun y => [pts y.cb 87 [.pointer (some ⟨y.pb, 0, none⟩), .pointer (some ⟨y.hb, 0, none⟩), .pointer (some ⟨y.qb, 0, none⟩)], isPl y.pb top y.S, slc 174 5 (some ⟨y.hb, 0, none⟩) 256 256 (Hd.tabC (l1 y.a)), Gr.isQ y.qb pd 0 []]) := by
 refine fI Tryz.func15 Tryz.ntmps15 ?_
 intro F hF
 refine zz [37] ?_
 haveI : GVI F := ⟨hF⟩
 have h67b : 6 ≤ top ∧ top ≤ 7 := by omega
 have hroom := S0_room (top := top) lim
 have hcg := S0_charge hl9
 refine zz [0,1,24,2,0,1,3,3,5] ?_
 refine cl (plnew_ok n top lim h67 hl) rfl (picked_nil _) GVI.gv ?_
 intro pb _
 refine zz [66,5] ?_
 refine cl Hd.new_ok rfl (picked_nil _) trivial ?_
 intro hb _
 refine zz [43,3,5] ?_
 refine cl (Gr.new_ok pd hp1 hp2) rfl (picked_nil _) trivial ?_
 intro qb _
 refine zz [46] ?_
 first | refine q rfl rfl (bld (cs := [.pointer _, .pointer _, .pointer _]) rfl) ?_ | refine q rfl rfl (bld (cs := [_, _, _]) rfl) ?_
 refine e rfl ?_
 refine bx (v := .agg #[_, _, _]) (l := [.pointer _, .pointer _, .pointer _]) rfl rfl ?_
 intro b1
 refine zz [24,2,0,0,1,6,13,14,12,34,20,85,112,151,52] ?_
 refine qg rfl rfl rfl (eqNil rfl rfl rfl) ?_
 refine zz [19,2,10,7,0,1,6,13,14,12,5] ?_
 refine cl (plget_ok pb top (S0 lim) 0 1 (by decide) hroom (by rw [hcg])) rfl PkL.p GVI.gv ?_
 intro y hG
 refine zz [57] ?_
 rw [hcg, show y.1 * 1024 + 64 + y.2.1 * clsz 1 = addr 1 y from rfl, show clsz 1 = 64 from rfl]
 dsimp only
 refine zz [26,15,15,4,4,2,0,0,1,3,23,2,10,7,0,1,6,13,47,12,3,89,5] ?_
 refine cl (Hd.put_ok hb (List.replicate 256 Hd.zeroPl) (ob 1 (addr 1 y) 0) HL.zero.ok) rfl PkL.p trivial ?_
 intro _ _
 refine zz [57] ?_
 rw [l1_put]
 refine zz [2,0,1,6,24,2,11] ?_
 exact Ret.i (⟨b1, pb, hb, qb, addr 1 y, ⟨[⟨0, -1, lim, 64⟩], 1, updN (S0 lim).C 1 y.2.2, [], zB (S0 lim).m (addr 1 y) 64⟩⟩ : CoN) [_] ⟨rfl, trivial⟩ rfl (N1.of h67b hG rfl rfl) entS
theorem spnew_ok (cb : Nat) : FSpec Tryz.prog 17 [.pointer (some ⟨cb, 0, none⟩)] noRd [] (fun y : Nat × Nat => .pointer (some ⟨y.1, 0, none⟩)) (fun _ => True) (fun y => [pts y.1 117 [.pointer (some ⟨cb, 0, none⟩), .pointer (some ⟨y.2, 0, none⟩)], Fo.isF y.2 [] 0]) := by
 refine fI Tryz.func17 Tryz.ntmps17 ?_
 intro F _
 refine zz [37,0,1,24,2,0,0,1,6,34,2,10,7,0,1,6,5] ?_
 refine cl Fo.fnew_ok rfl (picked_nil _) trivial ?_
 intro fb _
 refine zz [66] ?_
 first | refine q rfl rfl (bld (cs := [.pointer _, .pointer _]) rfl) ?_ | refine q rfl rfl (bld (cs := [_, _]) rfl) ?_
 refine e rfl ?_
 refine bx (v := .agg #[_, _]) (l := [.pointer _, .pointer _]) rfl rfl ?_
 intro b2
 refine zz [24,2,11] ?_
 exact Ret.i (b2, fb) [_] ⟨rfl, trivial⟩ rfl trivial entS
theorem ipnew_ok (crb : Nat) : FSpec Tryz.prog 18 [.pointer (some ⟨crb, 0, none⟩)] noRd [] (fun y : Nat × Nat × Nat × Nat × Nat × Nat => .pointer (some ⟨y.1, 0, none⟩)) (fun _ => True) (fun y => [pts y.1 128 [.pointer (some ⟨crb, 0, none⟩), .pointer (some ⟨y.2.1, 0, none⟩), .pointer (some ⟨y.2.2.1, 0, none⟩), .map (some y.2.2.2.1), .map (some y.2.2.2.2.1), .map (some y.2.2.2.2.2)], isT y.2.1 t0, isIq y.2.2.1 (fun _ => none) 0, mapF encU y.2.2.2.1 (fun _ => none) 0, mapF encU y.2.2.2.2.1 (fun _ => none) 0, mapF QM.encI y.2.2.2.2.2 (fun _ => none) 0]) := by
 refine fI Tryz.func18 Tryz.ntmps18 ?_
 intro F _
 refine zz [37,0,1,24,2,0,0,1,6,34,2,10,7,0,1,6,5] ?_
 refine cl tnew_ok rfl (picked_nil _) trivial ?_
 intro thb _
 refine zz [66,5] ?_
 refine cl iqnew_ok rfl (picked_nil _) trivial ?_
 intro irb _
 refine zz [43] ?_
 refine q rfl rfl (bld (cs := [.pointer (some ⟨crb, 0, none⟩), .pointer (some ⟨thb, 0, none⟩), .pointer (some ⟨irb, 0, none⟩)]) (by kernel_rfl)) ?_
 refine e rfl ?_
 refine mkF encU ?_
 intro b3
 refine e rfl ?_
 refine mkF encU ?_
 intro b4
 refine e rfl ?_
 refine mkF QM.encI ?_
 intro b5
 refine q rfl rfl (bld (cs := [.pointer (some ⟨crb, 0, none⟩), .pointer (some ⟨thb, 0, none⟩), .pointer (some ⟨irb, 0, none⟩), .map (some b3), .map (some b4), .map (some b5)]) (by kernel_rfl)) ?_
 refine e rfl ?_
 refine bx (v := .agg (List.toArray [.pointer (some ⟨crb, 0, none⟩), .pointer (some ⟨thb, 0, none⟩), .pointer (some ⟨irb, 0, none⟩), .map (some b3), .map (some b4), .map (some b5)])) (l := [.pointer (some ⟨crb, 0, none⟩), .pointer (some ⟨thb, 0, none⟩), .pointer (some ⟨irb, 0, none⟩), .map (some b3), .map (some b4), .map (some b5)]) rfl rfl ?_
 intro b6
 refine zz [24,2,11] ?_
 exact Ret.i (b6, thb, irb, b3, b4, b5) [_] ⟨rfl, trivial⟩ rfl trivial entS
theorem TI.zero {top t : Nat} {S : PS} (ht : Plc 128 (S.C 2) t) (hz : ∀ o, t ≤ o → o + 8 ≤ t + 128 → ldW S.m o = 0) : TI top S t := by
 have h0 : ∀ j, j < 16 → rtW S.m t j = 0 := fun j hj => hz _ (by omega) (by omega)
 exact ⟨ht, fun j hj h => absurd (h0 j hj) h, fun j k hj _ _ h => absurd (h0 j hj) h, fun j hj h => absurd (h0 j hj) h⟩
def l2 (a t : Nat) : List Hd.Pl := (l1 a).set 1 ⟨ob 2 t 0, 1, 0⟩
theorem l2_put (a t : Nat) : Hd.putR (l1 a) (ob 2 t 0) = (l2 a t, 1, 0) := ((l1_HL a).put (by decide) _).1
theorem l2_HL (a t : Nat) : HL (l2 a t) 2 := ((l1_HL a).put (by decide) _).2.1
theorem l2_tk (a t : Nat) : Hd.getR (l2 a t) 1 = (ob 2 t 0, 0) := ((l1_HL a).put (by decide) (ob 2 t 0)).2.2
theorem l2_fac (a t : Nat) : Hd.getR (l2 a t) 0 = (ob 1 a 0, 0) := (getR_set (l := l1 a) (i := 0) (k := 1) (by decide) (by decide) _).trans (l1_get a)
def KB (lim : Int) (i : Nat) : KA := ⟨1 + i, 2, if i = 0 then [] else if i = 1 then [0] else [1, 0], [], 1, 0, 192 + 304 * i, lim, if i = 0 then [] else [(0, 0, 0)]⟩
def KN (lim : Int) : KA := ⟨4, 3, [2, 1, 0], [], 1, 0, 1360, lim, [(0, 0, 0)]⟩
def S2w (lim : Int) (S : PS) (z : Nat × Nat × List Pg) : PS := ⟨[⟨0, -1, lim, 192⟩], 1, updN S.C 2 z.2.2, [], zB S.m (addr 2 z) 128⟩
theorem N2_charge {lim : Int} (h : 1000 ≤ lim) : Qt.chargeQ [⟨0, -1, lim, 64⟩] 0 (clsz 2 : Int) = ([⟨0, -1, lim, 192⟩], 0) := by
 have := charge0 (lim := lim) (u := 64) (c := 128) (r := []) (fun x h => by cases h) (by decide) (by show 64 + 0 + 128 ≤ lim; omega)
 exact this
theorem N1.fac {top : Nat} {lim : Int} {y : CoN} (hN : N1 top lim y) {z : Nat × Nat × List Pg} (g : GotP top y.S 2 z) : Plc 64 ((S2w lim y.S z).C 1) y.a ∧ ldW (S2w lim y.S z).m y.a = 0 := by
 have h1 : Plc 64 (updN y.S.C 2 z.2.2 1) y.a := (g.plc (d := 1) c2).2 (.inl hN.pl)
 have h2 := g.apart hN.P c2 (d := 1) (by decide) hN.pl
 have e1 : clsz 1 = 64 := rfl
 have e2 : clsz 2 = 128 := rfl
 exact ⟨h1, by rw [show (S2w lim y.S z).m = zB y.S.m (addr 2 z) 128 from rfl, ldW_zB_ne (by omega)]; exact hN.z⟩
theorem K0_of {top : Nat} {lim : Int} {y : CoN} (hN : N1 top lim y) {z : Nat × Nat × List Pg} (g : GotP top y.S 2 z) {r : KRec} (ht : r.t = addr 2 z) (hS : r.S = S2w lim y.S z) (hl : r.l = l2 y.a (addr 2 z)) (hu : r.u = 192) (hla : r.last = 0) (hm : r.gf = (fun _ => none) ∧ r.qf = (fun _ => none) ∧ r.lf = fun _ => none) : KInv top (KB lim 0) r := by
 have hP : PInv top r.S := g.re (by rw [hS]; rfl) (by rw [hS, hN.Fr]; rfl)
 have hC : r.S.C = updN y.S.C 2 z.2.2 := by rw [hS]; rfl
 have hT : TI top r.S r.t := TI.zero (by rw [hC, ht]; exact (g.plc (d := 2) c2).2 (.inr ⟨rfl, rfl⟩)) (fun o h1 h2 => by
  rw [ht] at h1 h2
  rw [hS, show (S2w lim y.S z).m = zB y.S.m (addr 2 z) 128 from rfl]; exact ldW_zB h1 h2)
 have h0 : ∀ j, j < 16 → rtW r.S.m r.t j = 0 := fun j hj => by
  rw [rtW, hS, show (S2w lim y.S z).m = zB y.S.m (addr 2 z) 128 from rfl, ht]; exact ldW_zB (by omega) (by omega)
 refine ⟨hP, hT, by rw [hl]; exact l2_HL _ _, by show 2 ≤ 2 ∧ 2 ≤ 1 + 0 + 1; omega, fun h => absurd (show 3 ≤ 2 from h) (by decide), by rw [hl, ht]; exact l2_tk _ _, fun c hc => ?_, by rw [hS]; exact Nat.le_refl 0, ⟨by omega, by show r.u ≤ 192 + 304 * ((0 : Nat) : Int); omega, by rw [hu, hS]; rfl⟩, by rw [hS]; rfl, fun s hs _ => ?_, (fun x hx => by cases hx), (by rw [hla]; exact (by decide : (0 : Int) ≤ 1)), fun h _ => by rw [hm.1, hm.2.1, hm.2.2]; exact ⟨rfl, rfl, rfl⟩⟩
 ·rw [hC]
  have h1 := usd_got c2 g c
  have h2 := hN.U c
  show usd (updN y.S.C 2 z.2.2) c ≤ 1 + 0
  rw [h1, h2]
  split <;> split <;> omega
 ·rw [enA, if_pos (h0 _ (by omega))]
def fn1 : Nat → List Fo.Fn
  | 0 => []
  | 1 => [⟨1, 0, 1, 0⟩]
  | 2 => [⟨1, 0, 1, 0⟩, ⟨2, 0, 1, 1⟩]
  | 3 => [⟨1, 0, 1, 0⟩, ⟨2, 0, 1, 1⟩, ⟨3, 0, 1, 2⟩]
  | _ => [⟨1, 0, 1, 0⟩, ⟨2, 0, 1, 1⟩, ⟨3, 0, 1, 2⟩, ⟨4, 0, 1, 3⟩]
def Sl1 (S : PS) (t n : Nat) : Prop := ∀ j, j < n → enA S.m t j = packN j 15
theorem Sl1.next {S S' : PS} {t n : Nat} (h : Sl1 S t n) (hn : n < 256) (hA : enA S'.m t n = packN n 15) (hO : ∀ x, x < 256 → x ≠ n → enA S'.m t x = enA S.m t x ∧ enB S'.m t x = enB S.m t x) : Sl1 S' t (n + 1) := fun j hj => by
 by_cases e : j = n
 ·subst e; exact hA
 ·rw [(hO j (by omega) e).1]; exact h j (by omega)
structure Aw (n : Nat) (y : KRec) : Prop where
  L : y.L = fn1 n
  la : y.last = n
  sl : Sl1 y.S y.t n
  kd : ∀ j, j < n → ∃ k a f, Hd.getR y.l (j : Int) = (ob k a f, 0) ∧ (k = 2 ↔ j = 1) ∧ (j ≠ 0 → k ≠ 1)
  u : 48 ≤ y.u
  pd : 1 ≤ y.pd ∧ y.pd ≤ 16
  t2 : ∃ a f, Hd.getR y.l 2 = (ob 3 a f, 0)
set_option maxHeartbeats 1000000 in
theorem knewA_ok (n top : Nat) (lim : Int) (h67 : n = 65536 ∧ top = 6 ∨ n = 131072 ∧ top = 7) (hl : 0 ≤ lim ∧ lim ≤ n) (hl9 : 4000 ≤ lim) (pd : Int) (hp1 : 1 ≤ pd) (hp2 : pd ≤ 16) : FSpec Tryz.prog 5 [.agg #[.int .i64 (n : Int), .int .i64 lim, .int .i64 pd]] GV [] (fun b : Nat => .pointer (some ⟨b, 0, none⟩)) (fun _ => True) (fun b => [isKnA b top (KN lim) (Aw 3)]) := by
 refine fI Tryz.func5 Tryz.ntmps5 ?_
 intro F hF
 refine zz [37] ?_
 haveI : GVI F := ⟨hF⟩
 refine zz [0,1,5] ?_
 refine bx (v := .agg #[_, _, _]) (l := [.int _ _, .int _ _, .int _ _]) rfl rfl ?_
 intro b1
 refine zz [24,2,0,1,14,12,47,12,62,12,5] ?_
 refine cl (conew_ok n top lim h67 hl (by omega) pd hp1 hp2) rfl (picked_nil _) GVI.gv ?_
 intro y hN
 refine zz [69,24,2,0,0,1,6] ?_
 have hb1 := Plc.bd hN.P (c := 1) (by decide) hN.pl
 have e64 : clsz 1 = 64 := rfl
 rw [e64] at hb1
 have hU1 : ∀ c ∈ cls, usd y.S.C c ≤ 1 := fun c _ => by rw [hN.U]; split <;> omega
 have hroom := (show RmB top y.S.Fr 1 from .inl ⟨by decide, by rw [hN.Fr]; decide⟩).room hN.P hU1
 have hcg : Qt.chargeQ y.S.Q (ldW y.S.m y.a : Int) (clsz 2 : Int) = ([⟨0, -1, lim, 192⟩], 0) := by rw [hN.z, hN.Q]; exact N2_charge (by omega)
 refine e rfl ?_
 refine cl (comk_obj y.cb y.pb y.hb y.qb top y.S (l1 y.a) (l1_HL _).ok 0 (by decide) y.a 0 (l1_get _) (by omega) (by omega) (by rw [hN.z]; decide) 2 (by decide) (by decide) 0 hroom ((l1_HL _).room (by decide)) (by rw [hcg])) rfl PkL.p GVI.gv ?_
 intro z hz
 refine zz [69] ?_
 rw [hcg, hN.z, show ((0 : Nat) : Int) = 0 from rfl, hN.nx, hN.Fr, show clsz 2 = 128 from rfl, show ((2 : Nat) : Int) = 2 from rfl, l2_put]
 dsimp only
 rw [show (⟨[⟨0, -1, lim, 192⟩], 1, updN y.S.C 2 z.2.2, [], zB y.S.m (addr 2 z) 128⟩ : PS) = S2w lim y.S z from rfl]
 refine zz [26,15,15,4,4,2,0,1,3,23,2,10,7,0,1,6,5] ?_
 refine cl (spnew_ok y.cb) rfl (picked_nil _) trivial ?_
 intro s9 _
 refine zz [53,24,2,0,1,6,5] ?_
 refine cl (crnew_ok s9.1) rfl (picked_nil _) trivial ?_
 intro c9 _
 refine zz [86,5] ?_
 refine cl (ipnew_ok c9.1) rfl (picked_nil _) trivial ?_
 intro i9 _
 refine zz [157,24,2,0,0,1,5,114] ?_
 intro b2
 refine zz [116,3,2,17] ?_
 have hK0 : KInv top (KB lim 0) (⟨i9.1, c9.1, c9.2, s9.1, i9.2.1, i9.2.2.1, i9.2.2.2.1, i9.2.2.2.2.1, i9.2.2.2.2.2, s9.2, y.cb, y.pb, y.hb, y.qb, (addr 2 z), 0, (S2w lim y.S z), (l2 y.a (addr 2 z)), [], 0, (fun _ => none), 0, (fun _ => none), 0, (fun _ => none), 0, 192, pd⟩ : KRec) := K0_of hN hz rfl rfl rfl rfl rfl ⟨rfl, rfl, rfl⟩
 refine TC.loop (ι := Nat × PS × List Fo.Fn × Int × Int) (fun s => s.1 ≤ 2 ∧ KInv top (KB lim s.1) (⟨i9.1, c9.1, c9.2, s9.1, i9.2.1, i9.2.2.1, i9.2.2.2.1, i9.2.2.2.2.1, i9.2.2.2.2.2, s9.2, y.cb, y.pb, y.hb, y.qb, (addr 2 z), 0, s.2.1, (l2 y.a (addr 2 z)), s.2.2.1, s.2.2.2.1, (fun _ => none), 0, (fun _ => none), 0, (fun _ => none), 0, s.2.2.2.2, pd⟩ : KRec) ∧ (s.1 = 0 → s.2.1 = S2w lim y.S z) ∧ s.2.2.1 = fn1 s.1 ∧ s.2.2.2.1 = s.1 ∧ Sl1 s.2.1 (addr 2 z) s.1) (fun s => [(2, .pointer none), (6, .pointer (some ⟨s9.1, 0, none⟩)), (7, .pointer (some ⟨i9.1, 0, none⟩)), (31, .slice (some ⟨b2, 0, none⟩) 2 2), (32, .int .i64 2), (33, .int .i64 ((s.1 : Nat) : Int))]) (fun s => sepL [pts s9.1 117 [.pointer (some ⟨y.cb, 0, none⟩), .pointer (some ⟨s9.2, 0, none⟩)], pts y.cb 87 [.pointer (some ⟨y.pb, 0, none⟩), .pointer (some ⟨y.hb, 0, none⟩), .pointer (some ⟨y.qb, 0, none⟩)], isPl y.pb top s.2.1, slc 174 5 (some ⟨y.hb, 0, none⟩) 256 256 (Hd.tabC (l2 y.a (addr 2 z))), Fo.isF s9.2 s.2.2.1 s.2.2.2.1, slc 56 1 (some ⟨b2, 0, none⟩) 2 2 [.int .u32 0, .int .u32 1], pts i9.1 128 [.pointer (some ⟨c9.1, 0, none⟩), .pointer (some ⟨i9.2.1, 0, none⟩), .pointer (some ⟨i9.2.2.1, 0, none⟩), .map (some i9.2.2.2.1), .map (some i9.2.2.2.2.1), .map (some i9.2.2.2.2.2)], pts c9.1 133 [.pointer (some ⟨c9.2, 0, none⟩)], pts c9.2 131 [.pointer (some ⟨s9.1, 0, none⟩)], isT i9.2.1 t0, mapF encU i9.2.2.2.2.1 (fun _ => none) 0, isIq i9.2.2.1 (fun _ => none) 0, mapF QM.encI i9.2.2.2.2.2 (fun _ => none) 0, Gr.isQ y.qb pd 0 [], mapF encU i9.2.2.2.1 (fun _ => none) 0, F]) (fun s => 2 - s.1) (0, S2w lim y.S z, [], 0, 192) ⟨(show 0 ≤ 2 by decide), hK0, fun _ => rfl, rfl, rfl, fun j hj => absurd hj (Nat.not_lt_zero j)⟩ ⟨rfl, rfl, rfl, rfl, rfl, rfl, trivial⟩ entS ?_
 rintro ⟨i, S, L, last, u⟩ ⟨hi, hI, hS0, hLe, hle, hsl⟩ ρ0
 dsimp only [updL] at hi hI hS0 hLe hle hsl ⊢
 refine zz [0,1,38,2,0] ?_
 first | refine TC.condD rfl (fun hlt => ?_) (fun hlt => ?_) | refine TC.cond rfl (fun hlt => ?_) (fun hlt => ?_)
 ·have h01 : i = 0 ∨ i = 1 := by omega
  have hQI := hI.Q
  have hlaI := hI.la
  have hFI := hI.F
  rcases h01 with rfl | rfl
  ·have hQI2 : 0 ≤ u ∧ u ≤ 192 + 304 * ((0 : Nat) : Int) ∧ S.Q = [⟨0, -1, lim, u⟩] := hQI
   have hqr : QR lim u [] := ⟨fun x h => (by cases h), hQI2.1, by show u + 0 + 1000 ≤ lim; omega⟩
   have hRb : RmB top S.Fr (1 + 1) := .inl ⟨by decide, Nat.le_trans hFI (show (0 : Nat) ≤ 8 by decide)⟩
   refine zz [7,0,17,0,1,3,167,12,4,4,2,0,1,6,3,3,73,5] ?_
   refine cl (sproot_ok s9.1 s9.2 y.cb y.pb y.hb y.qb top (addr 2 z) S (l2 y.a (addr 2 z)) (l2_HL _ _).ok (l2_tk _ _) hI.P hI.T 0 (by decide) lim u [] (hI.us 0 (by decide) (show (0 : Nat) ∉ ([] : List Nat) by decide)) hQI2.2.2 hqr 1 hI.U hRb L last (by have : last ≤ 1 := hlaI; omega) (by decide) 0 (by decide) 1 0 0 (by decide) y.a (l2_fac _ _)) rfl PkL.p GVI.gv ?_
   intro S' hL
   refine zz [157,23,2,10,42,1,36,3,2] ?_
   obtain ⟨v9, v1, v2, hQv⟩ := hL.dq
   have hK1 : KInv top (KB lim 1) (⟨i9.1, c9.1, c9.2, s9.1, i9.2.1, i9.2.2.1, i9.2.2.2.1, i9.2.2.2.2.1, i9.2.2.2.2.2, s9.2, y.cb, y.pb, y.hb, y.qb, (addr 2 z), 0, S', (l2 y.a (addr 2 z)), (Fo.addN L last 0 (1, ((0 : Nat) : Int))).1, (Fo.addN L last 0 (1, ((0 : Nat) : Int))).2.1, (fun _ => none), 0, (fun _ => none), 0, (fun _ => none), 0, v9, pd⟩ : KRec) := KInv.laid (s := 0) (h := 0) hI (by decide) (by decide) hL (hI.us 0 (by decide) (show (0 : Nat) ∉ ([] : List Nat) by decide)) rfl rfl (addN_last _ _ _ _) rfl ⟨by show 0 ≤ v9; omega, by show v9 ≤ 192 + 304 * ((1 : Nat) : Int); omega, hQv⟩ rfl rfl rfl rfl rfl (fun x hx => by
    rcases List.mem_cons.1 hx with h | h
    ·subst h
     obtain rfl := hS0 rfl
     exact .inr ⟨rfl, rfl, (show 0 < 2 by decide), y.a, 0, l2_fac _ _, (hN.fac hz).1, (hN.fac hz).2⟩
    ·cases h) ⟨rfl, rfl, rfl⟩
   exact ⟨rfl, (1, S', (Fo.addN L last 0 (1, ((0 : Nat) : Int))).1, (Fo.addN L last 0 (1, ((0 : Nat) : Int))).2.1, v9), ⟨by omega, hK1, fun h => by omega, by rw [hLe, hle]; rfl, by rw [hLe, hle]; rfl, hsl.next (by decide) hL.A hL.O⟩, (by show 2 - _ < 2 - _; omega), ⟨rfl, rfl, rfl, rfl, rfl, rfl, trivial⟩, entS⟩
  ·have hQI2 : 0 ≤ u ∧ u ≤ 192 + 304 * ((1 : Nat) : Int) ∧ S.Q = [⟨0, -1, lim, u⟩] := hQI
   have hqr : QR lim u [] := ⟨fun x h => (by cases h), hQI2.1, by show u + 0 + 1000 ≤ lim; omega⟩
   have hRb : RmB top S.Fr (2 + 1) := .inl ⟨by decide, Nat.le_trans hFI (show (0 : Nat) ≤ 8 by decide)⟩
   refine zz [7,0,17,0,1,3,167,12,4,4,2,0,1,6,3,3,73,5] ?_
   refine cl (sproot_ok s9.1 s9.2 y.cb y.pb y.hb y.qb top (addr 2 z) S (l2 y.a (addr 2 z)) (l2_HL _ _).ok (l2_tk _ _) hI.P hI.T 1 (by decide) lim u [] (hI.us 1 (by decide) (show (1 : Nat) ∉ [0] by decide)) hQI2.2.2 hqr 2 hI.U hRb L last (by have : last ≤ 2 := hlaI; omega) (by decide) 1 (by decide) 2 0 0 (by decide) (addr 2 z) (l2_tk _ _)) rfl PkL.p GVI.gv ?_
   intro S' hL
   refine zz [157,23,2,10,42,1,36,3,2] ?_
   obtain ⟨v9, v1, v2, hQv⟩ := hL.dq
   have hK1 : KInv top (KB lim 2) (⟨i9.1, c9.1, c9.2, s9.1, i9.2.1, i9.2.2.1, i9.2.2.2.1, i9.2.2.2.2.1, i9.2.2.2.2.2, s9.2, y.cb, y.pb, y.hb, y.qb, (addr 2 z), 0, S', (l2 y.a (addr 2 z)), (Fo.addN L last 0 (1, ((1 : Nat) : Int))).1, (Fo.addN L last 0 (1, ((1 : Nat) : Int))).2.1, (fun _ => none), 0, (fun _ => none), 0, (fun _ => none), 0, v9, pd⟩ : KRec) := KInv.laid (s := 1) (h := 1) hI (by decide) (by decide) hL (hI.us 1 (by decide) (show (1 : Nat) ∉ [0] by decide)) rfl rfl (addN_last _ _ _ _) rfl ⟨by show 0 ≤ v9; omega, by show v9 ≤ 192 + 304 * ((2 : Nat) : Int); omega, hQv⟩ rfl rfl rfl rfl rfl (fun x hx => .inl hx) ⟨rfl, rfl, rfl⟩
   exact ⟨rfl, (2, S', (Fo.addN L last 0 (1, ((1 : Nat) : Int))).1, (Fo.addN L last 0 (1, ((1 : Nat) : Int))).2.1, v9), ⟨by omega, hK1, fun h => by omega, by rw [hLe, hle]; rfl, by rw [hLe, hle]; rfl, hsl.next (by decide) hL.A hL.O⟩, (by show 2 - _ < 2 - _; omega), ⟨rfl, rfl, rfl, rfl, rfl, rfl, trivial⟩, entS⟩
 ·obtain rfl : i = 2 := by omega
  have hQI := hI.Q
  have hlaI := hI.la
  have hFI := hI.F
  have hQI2 : 0 ≤ u ∧ u ≤ 192 + 304 * ((2 : Nat) : Int) ∧ S.Q = [⟨0, -1, lim, u⟩] := hQI
  have hqr : QR lim u [] := ⟨fun x h => (by cases h), hQI2.1, by show u + 0 + 1000 ≤ lim; omega⟩
  have hRb : RmB top S.Fr (3 + 1) := .inl ⟨by decide, Nat.le_trans hFI (show (0 : Nat) ≤ 8 by decide)⟩
  obtain ⟨q1, q2, q3, f9, g9, q4, q5, q6⟩ := hI.fs (0, 0, 0) List.mem_cons_self
  have hch9 : ChQ lim u [] 0 (clsz 3 : Int) 256 [] 0 := fun v h1 h2 => charge0 (fun x h => (by cases h)) (by decide) (by show v + 0 + 256 ≤ lim; omega)
  have hlh := hI.hl
  refine zz [50,0,1,6,5] ?_
  refine cl (ipmk_thr i9.1 c9.1 c9.2 i9.2.1 i9.2.2.1 i9.2.2.2.1 i9.2.2.2.2.1 i9.2.2.2.2.2 s9.1 s9.2 y.cb y.pb y.hb y.qb top (addr 2 z) S (l2 y.a (addr 2 z)) hlh.ok (l2_tk _ _) hI.P hI.T 2 (by decide) lim u [] (hI.us 2 (by decide) (show (2 : Nat) ∉ [1, 0] by decide)) hQI2.2.2 hqr 3 hI.U hRb L last (by have : last ≤ 3 := hlaI; omega) (by decide) 0 (by decide) f9 g9 q4 q5 0 q6 (by decide) 0 256 [] hch9 (hlh.room (show 2 < 256 by decide)) 2 (by decide) (fun o => by rw [(hlh.put (show 2 < 256 by decide) o).1]; rfl) (fun o => by rw [(hlh.put (show 2 < 256 by decide) o).1]; exact (hlh.put (show 2 < 256 by decide) o).2.2) (fun o => by rw [(hlh.put (show 2 < 256 by decide) o).1]; exact (hlh.put (show 2 < 256 by decide) o).2.1.ok) t0 TP.zero ⟨by decide, by decide, by decide, by decide⟩ (fun _ => none) 0 rfl) rfl PkL.p GVI.gv ?_
  intro w9 hW
  refine zz [157] ?_
  rw [(hlh.put (show 2 < 256 by decide) (ob 3 w9.1 ((0 : Nat) : Int))).1]
  refine zz [26,15,15,4,4,2,0,0,1,3,23,2,10,7,0,1,6,3,5] ?_
  refine cl (ipstart_ok i9.1 c9.1 c9.2 s9.1 i9.2.1 i9.2.2.1 i9.2.2.2.1 i9.2.2.2.2.1 i9.2.2.2.2.2 s9.2 y.cb y.pb y.hb y.qb _ (hlh.put (show 2 < 256 by decide) (ob 3 w9.1 ((0 : Nat) : Int))).2.1.ok 2 (by decide) (ob 3 w9.1 ((0 : Nat) : Int)) (hlh.put (show 2 < 256 by decide) (ob 3 w9.1 ((0 : Nat) : Int))).2.2 rfl 3 4 (addL t0 [2]) (TP.adds [2] TP.zero) ⟨by decide, by decide, by decide, by decide⟩) rfl PkL.p trivial ?_
  intro _ _
  refine zz [157,2,0,1,6,198,198,5] ?_
  refine bx (v := .agg #[_]) (l := [.pointer _]) rfl rfl ?_
  intro b3
  refine zz [24,2,11] ?_
  obtain ⟨hM, hpl, hzz, ⟨d, d0, d1, hQ2⟩, hnx, hFr⟩ := hW
  have hKN : KInv top (KN lim) (⟨i9.1, c9.1, c9.2, s9.1, i9.2.1, i9.2.2.1, i9.2.2.2.1, i9.2.2.2.2.1, i9.2.2.2.2.2, s9.2, y.cb, y.pb, y.hb, y.qb, (addr 2 z), w9.1, w9.2, ((l2 y.a (addr 2 z)).set 2 ⟨ob 3 w9.1 ((0 : Nat) : Int), 1, 0⟩), (Fo.addN L last 0 (1, ((2 : Nat) : Int))).1, (Fo.addN L last 0 (1, ((2 : Nat) : Int))).2.1, (fun _ => none), 0, (fun _ => none), 0, (fun _ => none), 0, (u + d + 256), pd⟩ : KRec) := KInv.made (s := 2) (o := ob 3 w9.1 ((0 : Nat) : Int)) hI (by decide) (show 2 < 256 by decide) hM (hI.us 2 (by decide) (show (2 : Nat) ∉ [1, 0] by decide)) rfl rfl (addN_last _ _ _ _) (by show w9.2.Fr.length ≤ 0; rw [hFr]; exact hFI) ⟨by show 0 ≤ u + d + 256; omega, by show u + d + 256 ≤ 1360; omega, hQ2⟩ (hnx.trans hI.nx) (fun _ => .inr ⟨hpl, hzz (by decide)⟩) rfl rfl rfl (fun x hx => .inl hx) (fun h hh => ⟨rfl, rfl, rfl⟩)
  have hAw : Aw 3 (⟨i9.1, c9.1, c9.2, s9.1, i9.2.1, i9.2.2.1, i9.2.2.2.1, i9.2.2.2.2.1, i9.2.2.2.2.2, s9.2, y.cb, y.pb, y.hb, y.qb, (addr 2 z), w9.1, w9.2, ((l2 y.a (addr 2 z)).set 2 ⟨ob 3 w9.1 ((0 : Nat) : Int), 1, 0⟩), (Fo.addN L last 0 (1, ((2 : Nat) : Int))).1, (Fo.addN L last 0 (1, ((2 : Nat) : Int))).2.1, (fun _ => none), 0, (fun _ => none), 0, (fun _ => none), 0, (u + d + 256), pd⟩ : KRec) := ⟨by show (Fo.addN L last 0 _).1 = _; rw [hLe, hle]; rfl, by show (Fo.addN L last 0 _).2.1 = _; rw [hLe, hle]; rfl, hsl.next (by decide) hM.A hM.O, fun j hj => by
   have h3 : j = 0 ∨ j = 1 ∨ j = 2 := by omega
   rcases h3 with rfl | rfl | rfl
   ·exact ⟨1, y.a, 0, (getR_set (l := l2 y.a (addr 2 z)) (i := 0) (k := 2) (by decide) (by decide) _).trans (l2_fac _ _), by decide, by decide⟩
   ·exact ⟨2, addr 2 z, 0, (getR_set (l := l2 y.a (addr 2 z)) (i := 1) (k := 2) (by decide) (by decide) _).trans (l2_tk _ _), by decide, by decide⟩
   ·exact ⟨3, w9.1, 0, (hlh.put (show 2 < 256 by decide) (ob 3 w9.1 ((0 : Nat) : Int))).2.2, by decide, by decide⟩, by show 48 ≤ u + d + 256; omega, ⟨hp1, hp2⟩, w9.1, 0, (hlh.put (show 2 < 256 by decide) (ob 3 w9.1 ((0 : Nat) : Int))).2.2⟩
  exact Ret.i b3 [_] ⟨rfl, trivial⟩ rfl trivial (ent_close (⟨i9.1, c9.1, c9.2, s9.1, i9.2.1, i9.2.2.1, i9.2.2.2.1, i9.2.2.2.2.1, i9.2.2.2.2.2, s9.2, y.cb, y.pb, y.hb, y.qb, (addr 2 z), w9.1, w9.2, ((l2 y.a (addr 2 z)).set 2 ⟨ob 3 w9.1 ((0 : Nat) : Int), 1, 0⟩), (Fo.addN L last 0 (1, ((2 : Nat) : Int))).1, (Fo.addN L last 0 (1, ((2 : Nat) : Int))).2.1, (fun _ => none), 0, (fun _ => none), 0, (fun _ => none), 0, (u + d + 256), pd⟩ : KRec) ⟨hKN, hAw⟩ entS)
theorem knew_ok (n top : Nat) (lim : Int) (h67 : n = 65536 ∧ top = 6 ∨ n = 131072 ∧ top = 7) (hl : 0 ≤ lim ∧ lim ≤ n) (hl9 : 4000 ≤ lim) (pd : Int) (hp1 : 1 ≤ pd) (hp2 : pd ≤ 16) : FSpec Tryz.prog 5 [.agg #[.int .i64 (n : Int), .int .i64 lim, .int .i64 pd]] GV [] (fun b : Nat => .pointer (some ⟨b, 0, none⟩)) (fun _ => True) (fun b => [isKn b top (KN lim)]) :=
 FSpec.weakP (knewA_ok n top lim h67 hl hl9 pd hp1 hp2) (fun b => isKnA_to)
def R2 (l1 u1 l2 u2 : Int) : List Qt.Qn := [⟨1, 0, l1, u1⟩, ⟨2, 0, l2, u2⟩]
theorem R2_id (l1 u1 l2 u2 : Int) : ∀ x ∈ R2 l1 u1 l2 u2, x.id ≠ 0 := by
 intro x hx
 simp only [R2, List.mem_cons, List.not_mem_nil, or_false] at hx
 rcases hx with rfl | rfl
 ·exact (by decide : (1 : Int) ≠ 0)
 ·exact (by decide : (2 : Int) ≠ 0)
theorem R2_giv (l1 u1 l2 u2 : Int) : Qt.givQ (R2 l1 u1 l2 u2) 0 = l1 + l2 := by
 rw [R2, show ([⟨1, 0, l1, u1⟩, ⟨2, 0, l2, u2⟩] : List Qt.Qn) = [⟨1, 0, l1, u1⟩] ++ [⟨2, 0, l2, u2⟩] from rfl, Qt.givQ_app, Qt.givQ_one, Qt.givQ_one, if_pos rfl, if_pos rfl]
theorem R2_giv1 (lim v l1 u1 l2 u2 : Int) (w : Int) (hw : w = 1 ∨ w = 2) : Qt.givQ (⟨0, -1, lim, v⟩ :: R2 l1 u1 l2 u2) w = 0 := by
 rw [R2, show (⟨0, -1, lim, v⟩ :: [⟨1, 0, l1, u1⟩, ⟨2, 0, l2, u2⟩] : List Qt.Qn) = [⟨0, -1, lim, v⟩] ++ ([⟨1, 0, l1, u1⟩] ++ [⟨2, 0, l2, u2⟩]) from rfl, Qt.givQ_app, Qt.givQ_app, Qt.givQ_one, Qt.givQ_one, Qt.givQ_one]
 dsimp only
 rw [if_neg (by omega), if_neg (by omega), if_neg (by omega)]; rfl
theorem R2_find1 (lim v l1 u1 l2 u2 : Int) : Qt.findQ (⟨0, -1, lim, v⟩ :: R2 l1 u1 l2 u2) 1 = some ⟨1, 0, l1, u1⟩ := rfl
theorem R2_find2 (lim v l1 u1 l2 u2 : Int) : Qt.findQ (⟨0, -1, lim, v⟩ :: R2 l1 u1 l2 u2) 2 = some ⟨2, 0, l2, u2⟩ := rfl
theorem R2_ch1 {lim l1 u1 l2 u2 sz : Int} (h : 0 ≤ sz) (hl : u1 + sz ≤ l1) (u : Int) : ChQ lim u (R2 l1 u1 l2 u2) 1 sz 0 (R2 l1 (u1 + sz) l2 u2) 0 := fun v _ _ => by
 rw [show ((1 : Nat) : Int) = 1 from rfl, Qt.chargeQ, if_neg (fun h => h ⟨⟨1, 0, l1, u1⟩, by simp [R2], rfl⟩), if_neg (by omega), Qt.limQ, Qt.useQ, Qt.chgQ, R2_find1]
 dsimp only
 rw [R2_giv1 lim v l1 u1 l2 u2 1 (.inl rfl), if_neg (by omega), Int.add_zero]
 rfl
theorem R2_no1 {lim l1 u1 l2 u2 sz : Int} (h : 0 ≤ sz) (hl : ¬ u1 + sz ≤ l1) (u : Int) : ChQ lim u (R2 l1 u1 l2 u2) 1 sz 0 (R2 l1 u1 l2 u2) 5 := fun v _ _ => by
 rw [show ((1 : Nat) : Int) = 1 from rfl, Qt.chargeQ, if_neg (fun h => h ⟨⟨1, 0, l1, u1⟩, by simp [R2], rfl⟩), if_neg (by omega), Qt.limQ, Qt.useQ, R2_find1]
 dsimp only
 rw [R2_giv1 lim v l1 u1 l2 u2 1 (.inl rfl), if_pos (by omega), Int.add_zero]
theorem R2_ch2 {lim l1 u1 l2 u2 sz : Int} (h : 0 ≤ sz) (hl : u2 + sz ≤ l2) (u : Int) : ChQ lim u (R2 l1 u1 l2 u2) 2 sz 0 (R2 l1 u1 l2 (u2 + sz)) 0 := fun v _ _ => by
 rw [show ((2 : Nat) : Int) = 2 from rfl, Qt.chargeQ, if_neg (fun h => h ⟨⟨2, 0, l2, u2⟩, by simp [R2], rfl⟩), if_neg (by omega), Qt.limQ, Qt.useQ, Qt.chgQ, R2_find2]
 dsimp only
 rw [R2_giv1 lim v l1 u1 l2 u2 2 (.inr rfl), if_neg (by omega), Int.add_zero]
 rfl
theorem R2_no2 {lim l1 u1 l2 u2 sz : Int} (h : 0 ≤ sz) (hl : ¬ u2 + sz ≤ l2) (u : Int) : ChQ lim u (R2 l1 u1 l2 u2) 2 sz 0 (R2 l1 u1 l2 u2) 5 := fun v _ _ => by
 rw [show ((2 : Nat) : Int) = 2 from rfl, Qt.chargeQ, if_neg (fun h => h ⟨⟨2, 0, l2, u2⟩, by simp [R2], rfl⟩), if_neg (by omega), Qt.limQ, Qt.useQ, R2_find2]
 dsimp only
 rw [R2_giv1 lim v l1 u1 l2 u2 2 (.inr rfl), if_pos (by omega), Int.add_zero]
def szK (c : Nat) : Int := if c = 8 then 1024 else (clsz c : Int)
def frK (c : Nat) : Nat := if c = 8 then 1 else 0
structure IsoK (K : KA) (n i : Nat) (l1 u1 l2 u2 : Int) : Prop where
  hn : K.n ≤ 6 + n
  k : 3 ≤ K.k ∧ K.k ≤ 5 + n
  r : K.r = R2 l1 u1 l2 u2
  fr : K.fr ≤ i
  b : K.b ≤ 2200 + 304 * (n : Int)
  lim : K.lim = 131072
  fs : (3, 3, 1) ∈ K.fs ∧ (4, 4, 2) ∈ K.fs
  us : ∀ s ∈ K.us, s < 16 + i ∨ (64 ≤ s ∧ s < 94) ∨ (128 ≤ s ∧ s < 128 + i)
  L : 0 ≤ u1 ∧ u1 ≤ l1 ∧ l1 < 20000 ∧ 0 ≤ u2 ∧ u2 ≤ l2 ∧ l2 < 10000
def nxK (K : KA) (s c : Nat) (l1 u1 l2 u2 : Int) : KA := if u1 + szK c ≤ l1 then ⟨K.n + 1, K.k + 1, s :: K.us, R2 l1 (u1 + szK c) l2 u2, K.nx, K.fr + frK c, K.b + 304, K.lim, K.fs⟩ else K
def nxU (c : Nat) (l1 u1 : Int) : Int := if u1 + szK c ≤ l1 then u1 + szK c else u1
def nxE (c : Nat) (l1 u1 : Int) : Int := if u1 + szK c ≤ l1 then 0 else 5
theorem szK_pos {c : Nat} : 0 ≤ szK c := by rw [szK]; split <;> omega
theorem IsoK.next {K : KA} {n i : Nat} {l1 u1 l2 u2 : Int} (h : IsoK K n i l1 u1 l2 u2) {s c : Nat} (hs : s = 16 + i ∨ s = 128 + i) : IsoK (nxK K s c l1 u1 l2 u2) (n + 1) (i + 1) l1 (nxU c l1 u1) l2 u2 := by
 have hL := h.L
 have hz := szK_pos (c := c)
 rw [nxK, nxU]
 by_cases hc : u1 + szK c ≤ l1
 ·rw [if_pos hc, if_pos hc]
  refine ⟨by have := h.hn; show K.n + 1 ≤ _; omega, by have := h.k; show 3 ≤ K.k + 1 ∧ K.k + 1 ≤ _; omega, rfl, ?_, by have := h.b; show K.b + 304 ≤ _; omega, h.lim, h.fs, fun x hx => ?_, by omega⟩
  ·have := h.fr
   show K.fr + frK c ≤ _
   rw [frK]; split <;> omega
  ·rcases List.mem_cons.1 hx with rfl | hx
   ·omega
   ·have := h.us x hx; omega
 ·rw [if_neg hc, if_neg hc]
  exact ⟨by have := h.hn; omega, by have := h.k; omega, h.r, by have := h.fr; omega, by have := h.b; omega, h.lim, h.fs, fun x hx => by have := h.us x hx; omega, hL⟩
theorem kiso (kb : Nat) (K : KA) (n i s c : Nat) (l1 u1 l2 u2 : Int) (hK : IsoK K n i l1 u1 l2 u2) (hn : n ≤ 69) (hi : i < 40) (hs : c = 8 ∧ s = 128 + i ∨ (c = 2 ∨ c = 4 ∨ c = 5) ∧ s = 16 + i) (ad : Option Addr) (cap : Nat) : FSpec Tryz.prog 6 [.pointer (some ⟨kb, 0, none⟩), .agg #[.int .i64 0, .int .i64 0, .slice ad 2 cap]] GV [isKn kb 7 K, slc 31 1 ad 2 cap (wordsC 1 3 s c 0)] (fun y : Nat × Option Addr × Nat => .agg #[.int .i64 (nxE c l1 u1), .int .u64 (y.1 : Int), .int .i64 2, .slice y.2.1 0 y.2.2]) (fun _ => True) (fun _ => [isKn kb 7 (nxK K s c l1 u1 l2 u2), slc 31 1 ad 2 cap (wordsC 1 3 s c 0)]) := by
 have hL := hK.L
 have hsu : s ∉ K.us := fun hm => by have := hK.us s hm; omega
 have hkk := hK.k
 have hnn := hK.hn
 have hff := hK.fr
 have hbb := hK.b
 have hq : (∀ x ∈ K.r, x.id ≠ 0) ∧ K.b + Qt.givQ K.r 0 + 1000 ≤ K.lim := by
  rw [hK.r, R2_giv, hK.lim]; exact ⟨R2_id _ _ _ _, by omega⟩
 have hRm : K.n + 1 ≤ 8 ∧ K.fr ≤ 8 ∨ K.n + 1 ≤ 76 ∧ 7 = 7 ∧ K.fr ≤ 40 := .inr ⟨by omega, rfl, by omega⟩
 have hr := hK.r
 by_cases hc : u1 + szK c ≤ l1
 ·have hE : nxE c l1 u1 = 0 := if_pos hc
  have hN : nxK K s c l1 u1 l2 u2 = ⟨K.n + 1, K.k + 1, s :: K.us, R2 l1 (u1 + szK c) l2 u2, K.nx, K.fr + frK c, K.b + 304, K.lim, K.fs⟩ := if_pos hc
  have hch : ∀ u, ChQ K.lim u K.r 1 (szK c) 0 (R2 l1 (u1 + szK c) l2 u2) 0 := fun u => by rw [hr]; exact R2_ch1 szK_pos hc u
  rw [hE, hN]
  rcases hs with ⟨rfl, h2⟩ | ⟨rfl | rfl | rfl, h2⟩
  ·exact (kst_fr kb 7 K s 3 3 1 hK.fs.1 (by omega) (by omega) hsu hq hRm hkk.1 (by omega) (by decide) _ hch ad cap).weak (fun _ h => h) (ent.refl _) (fun y _ => ⟨(K.k, y), rfl, trivial, ent.refl _⟩)
  ·exact (kst_task kb 7 K s 3 3 1 hK.fs.1 (by omega) hsu hq hRm hkk.1 (by omega) (by decide) _ hch ad cap).weak (fun _ h => h) (ent.refl _) (fun y _ => ⟨(K.k, y), rfl, trivial, ent.refl _⟩)
  ·exact (kst_gate kb 7 K s 3 3 1 hK.fs.1 (by omega) hsu hq hRm hkk.1 (by omega) (by decide) _ hch ad cap).weak (fun _ h => h) (ent.refl _) (fun y _ => ⟨(K.k, y), rfl, trivial, ent.refl _⟩)
  ·exact (kst_irq kb 7 K s 3 3 1 hK.fs.1 (by omega) hsu hq hRm hkk.1 (by omega) (by decide) _ hch ad cap).weak (fun _ h => h) (ent.refl _) (fun y _ => ⟨(K.k, y), rfl, trivial, ent.refl _⟩)
 ·have hE : nxE c l1 u1 = 5 := if_neg hc
  have hN : nxK K s c l1 u1 l2 u2 = K := if_neg hc
  have hch : ∀ u, ChQ K.lim u K.r 1 (szK c) 0 (R2 l1 u1 l2 u2) 5 := fun u => by rw [hr]; exact R2_no1 szK_pos hc u
  rw [hE, hN]
  rcases hs with ⟨rfl, h2⟩ | ⟨h1, h2⟩
  ·exact (kst_nofr kb 7 K s 3 3 1 hK.fs.1 (by omega) (by omega) hsu hq hRm hkk.1 (by omega) (by decide) _ hch ad cap).weak (fun _ h => h) (ent.refl _) (fun y _ => ⟨(0, y), rfl, trivial, ent.refl _⟩)
  ·have hz : szK c = (clsz c : Int) := if_neg (by omega)
   exact (kst_no kb 7 K s 3 3 1 hK.fs.1 (by omega) hsu hq hRm hkk.1 (by omega) (by decide) _ c (by omega) (by omega) (fun u => by rw [← hz]; exact hch u) ad cap).weak (fun _ h => h) (ent.refl _) (fun y _ => ⟨(0, y), rfl, trivial, ent.refl _⟩)
structure IsoF (K : KA) (j : Nat) (l1 l2 u2 : Int) : Prop where
  hn : K.n ≤ 6 + j
  k : 3 ≤ K.k ∧ K.k ≤ 5 + j
  r : K.r = R2 l1 0 l2 u2
  fr : K.fr ≤ 0
  b : K.b ≤ 2200 + 304 * (j : Int)
  lim : K.lim = 131072
  fs : (3, 3, 1) ∈ K.fs ∧ (4, 4, 2) ∈ K.fs
  us : ∀ s ∈ K.us, s < 16 ∨ (64 ≤ s ∧ s < 64 + j)
  L : 0 ≤ l1 ∧ l1 < 20000 ∧ 0 ≤ u2 ∧ u2 ≤ l2 ∧ l2 < 10000
def nxF (K : KA) (s c : Nat) (l1 l2 u2 : Int) : KA := if u2 + szK c ≤ l2 then ⟨K.n + 1, K.k + 1, s :: K.us, R2 l1 0 l2 (u2 + szK c), K.nx, K.fr, K.b + 304, K.lim, K.fs⟩ else K
theorem IsoF.next {K : KA} {j : Nat} {l1 l2 u2 : Int} (h : IsoF K j l1 l2 u2) (c : Nat) : IsoF (nxF K (64 + j) c l1 l2 u2) (j + 1) l1 l2 (nxU c l2 u2) := by
 have hL := h.L
 have hz := szK_pos (c := c)
 rw [nxF, nxU]
 by_cases hc : u2 + szK c ≤ l2
 ·rw [if_pos hc, if_pos hc]
  refine ⟨by have := h.hn; show K.n + 1 ≤ _; omega, by have := h.k; show 3 ≤ K.k + 1 ∧ K.k + 1 ≤ _; omega, rfl, h.fr, by have := h.b; show K.b + 304 ≤ _; omega, h.lim, h.fs, fun x hx => ?_, by omega⟩
  rcases List.mem_cons.1 hx with rfl | hx
  ·omega
  ·have := h.us x hx; omega
 ·rw [if_neg hc, if_neg hc]
  exact ⟨by have := h.hn; omega, by have := h.k; omega, h.r, h.fr, by have := h.b; omega, h.lim, h.fs, fun x hx => by have := h.us x hx; omega, hL⟩
theorem IsoF.iso {K : KA} {j : Nat} {l1 l2 u2 : Int} (h : IsoF K j l1 l2 u2) (hj : j ≤ 30) : IsoK K j 0 l1 0 l2 u2 :=
 ⟨h.hn, h.k, h.r, h.fr, h.b, h.lim, h.fs, fun s hs => by have := h.us s hs; omega, by have := h.L; omega⟩
def KF (a b : Nat) : KA := ⟨6, 5, [4, 3, 2, 1, 0], R2 a 0 b 0, 3, 0, 2096, 131072, [(4, 4, 2), (3, 3, 1), (0, 0, 0)]⟩
theorem KF_iso {a b : Nat} (ha : a < 20000) (hb : b < 10000) : IsoF (KF a b) 0 a b 0 :=
 ⟨(show 6 ≤ 6 by decide), (show 3 ≤ 5 ∧ 5 ≤ 5 by decide), rfl, Nat.le_refl _, by show (2096 : Int) ≤ 2200 + 304 * ((0 : Nat) : Int); decide, rfl, ⟨by simp [KF], by simp [KF]⟩, fun s hs => by simp [KF] at hs; omega, by omega⟩
theorem kfill (kb : Nat) (K : KA) (j c : Nat) (l1 l2 u2 : Int) (hK : IsoF K j l1 l2 u2) (hj : j < 30) (hcc : c = 2 ∨ c = 4) (ad : Option Addr) (cap : Nat) : FSpec Tryz.prog 6 [.pointer (some ⟨kb, 0, none⟩), .agg #[.int .i64 0, .int .i64 0, .slice ad 2 cap]] GV [isKn kb 7 K, slc 31 1 ad 2 cap (wordsC 1 4 (64 + j) c 0)] (fun y : Nat × Option Addr × Nat => .agg #[.int .i64 (nxE c l2 u2), .int .u64 (y.1 : Int), .int .i64 2, .slice y.2.1 0 y.2.2]) (fun _ => True) (fun _ => [isKn kb 7 (nxF K (64 + j) c l1 l2 u2), slc 31 1 ad 2 cap (wordsC 1 4 (64 + j) c 0)]) := by
 have hL := hK.L
 have hsu : 64 + j ∉ K.us := fun hm => by have := hK.us _ hm; omega
 have hkk := hK.k
 have hnn := hK.hn
 have hff := hK.fr
 have hbb := hK.b
 have hq : (∀ x ∈ K.r, x.id ≠ 0) ∧ K.b + Qt.givQ K.r 0 + 1000 ≤ K.lim := by
  rw [hK.r, R2_giv, hK.lim]; exact ⟨R2_id _ _ _ _, by omega⟩
 have hRm : K.n + 1 ≤ 8 ∧ K.fr ≤ 8 ∨ K.n + 1 ≤ 76 ∧ 7 = 7 ∧ K.fr ≤ 40 := .inr ⟨by omega, rfl, by omega⟩
 have hr := hK.r
 by_cases hc : u2 + szK c ≤ l2
 ·have hE : nxE c l2 u2 = 0 := if_pos hc
  have hN : nxF K (64 + j) c l1 l2 u2 = ⟨K.n + 1, K.k + 1, (64 + j) :: K.us, R2 l1 0 l2 (u2 + szK c), K.nx, K.fr, K.b + 304, K.lim, K.fs⟩ := if_pos hc
  have hch : ∀ u, ChQ K.lim u K.r 2 (szK c) 0 (R2 l1 0 l2 (u2 + szK c)) 0 := fun u => by rw [hr]; exact R2_ch2 szK_pos hc u
  rw [hE, hN]
  rcases hcc with rfl | rfl
  ·exact (kst_task kb 7 K (64 + j) 4 4 2 hK.fs.2 (by omega) hsu hq hRm hkk.1 (by omega) (by decide) _ hch ad cap).weak (fun _ h => h) (ent.refl _) (fun y _ => ⟨(K.k, y), rfl, trivial, ent.refl _⟩)
  ·exact (kst_gate kb 7 K (64 + j) 4 4 2 hK.fs.2 (by omega) hsu hq hRm hkk.1 (by omega) (by decide) _ hch ad cap).weak (fun _ h => h) (ent.refl _) (fun y _ => ⟨(K.k, y), rfl, trivial, ent.refl _⟩)
 ·have hE : nxE c l2 u2 = 5 := if_neg hc
  have hN : nxF K (64 + j) c l1 l2 u2 = K := if_neg hc
  have hch : ∀ u, ChQ K.lim u K.r 2 (szK c) 0 (R2 l1 0 l2 u2) 5 := fun u => by rw [hr]; exact R2_no2 szK_pos hc u
  rw [hE, hN]
  have hz : szK c = (clsz c : Int) := if_neg (by omega)
  exact (kst_no kb 7 K (64 + j) 4 4 2 hK.fs.2 (by omega) hsu hq hRm hkk.1 (by omega) (by decide) _ c (by omega) (by omega) (fun u => by rw [← hz]; exact hch u) ad cap).weak (fun _ h => h) (ent.refl _) (fun y _ => ⟨(0, y), rfl, trivial, ent.refl _⟩)
theorem kfac1 (kb a : Nat) (ha : a < 20000) (ad : Option Addr) (cap : Nat) : FSpec Tryz.prog 6 [.pointer (some ⟨kb, 0, none⟩), .agg #[.int .i64 0, .int .i64 0, .slice ad 2 cap]] GV [isKn kb 7 (KN 131072), slc 31 1 ad 2 cap (wordsC 1 0 3 1 a)] (fun y : Option Addr × Nat => .agg #[.int .i64 0, .int .u64 ((3 : Nat) : Int), .int .i64 2, .slice y.1 0 y.2]) (fun _ => True) (fun _ => [isKn kb 7 ⟨5, 4, [3, 2, 1, 0], [⟨1, 0, (a : Int), 0⟩], 2, 0, 1728, 131072, [(3, 3, 1), (0, 0, 0)]⟩, slc 31 1 ad 2 cap (wordsC 1 0 3 1 a)]) :=
 (kst_fac kb 7 (KN 131072) 3 0 0 List.mem_cons_self (by decide) (by decide) a (by omega) ⟨fun x h => (by cases h), by show (1360 : Int) + 0 + 1000 + a ≤ 131072; omega⟩ (by decide) (.inl (by decide)) (by decide) (by decide) 1 (by decide) rfl ad cap).weak (fun _ h => h) (ent.refl _) (fun y _ => ⟨y, rfl, trivial, ent.refl _⟩)
theorem kfac2 (kb a b : Nat) (ha : a < 20000) (hb : b < 10000) (ad : Option Addr) (cap : Nat) : FSpec Tryz.prog 6 [.pointer (some ⟨kb, 0, none⟩), .agg #[.int .i64 0, .int .i64 0, .slice ad 2 cap]] GV [isKn kb 7 ⟨5, 4, [3, 2, 1, 0], [⟨1, 0, (a : Int), 0⟩], 2, 0, 1728, 131072, [(3, 3, 1), (0, 0, 0)]⟩, slc 31 1 ad 2 cap (wordsC 1 0 4 1 b)] (fun y : Option Addr × Nat => .agg #[.int .i64 0, .int .u64 ((4 : Nat) : Int), .int .i64 2, .slice y.1 0 y.2]) (fun _ => True) (fun _ => [isKn kb 7 (KF a b), slc 31 1 ad 2 cap (wordsC 1 0 4 1 b)]) :=
 (kst_fac kb 7 ⟨5, 4, [3, 2, 1, 0], [⟨1, 0, (a : Int), 0⟩], 2, 0, 1728, 131072, [(3, 3, 1), (0, 0, 0)]⟩ 4 0 0 (by simp) (by decide) (by simp) b (by omega) ⟨fun x h => by (simp only [List.mem_cons, List.not_mem_nil, or_false] at h; subst h; exact (by decide : (1 : Int) ≠ 0)), by (show (1728 : Int) + Qt.givQ [⟨1, 0, (a : Int), 0⟩] 0 + 1000 + b ≤ 131072; rw [Qt.givQ_one, if_pos rfl]; dsimp only; omega)⟩ (by simp) (.inl ⟨(show 6 ≤ 8 by decide), (show 0 ≤ 8 by decide)⟩) (show 3 ≤ 4 by decide) (show 4 < 256 by decide) 2 (by decide) rfl ad cap).weak (fun _ h => h) (ent.refl _) (fun y _ => ⟨y, rfl, trivial, ent.refl _⟩)
theorem R2_use (lim v l1 u1 l2 u2 : Int) : Qt.useQ (⟨0, -1, lim, v⟩ :: R2 l1 u1 l2 u2) 1 = u1 := by
 rw [Qt.useQ, R2_find1]
 dsimp only
 rw [R2_giv1 lim v l1 u1 l2 u2 1 (.inl rfl), Int.add_zero]
theorem R2_lim (lim v l1 u1 l2 u2 : Int) : Qt.limQ (⟨0, -1, lim, v⟩ :: R2 l1 u1 l2 u2) 1 = l1 := by
 rw [Qt.limQ, R2_find1]
theorem ff3 {r : Option Nat} {P : Program} {N : Nat} {ops : Array Oper} {I : HP} {T : List Nat} {listed : Array Bool} {m : Nat} {Q : Post} {ρ : Env} {ds : List Deferred} {A : HP} {op op' op2 : Op} {ty ty' ty2 : TypeId} {ps ps' ps2 : String} {af af' af2 : Array Edge} {t t' t2 i j k : Nat}
 (hi : ops[i]? = some ⟨some t, op, ty, ps, af, none⟩) (hj : ops[j]? = some ⟨some t', op', ty', ps', af', none⟩) (hk9 : ops[k]? = some ⟨some t2, op2, ty2, ps2, af2, none⟩) (di : Nat.blt t N = true) (dj : Nat.blt t' N = true) (dk : Nat.blt t2 N = true) (hr1 : (Region.ready .any ops listed == [i, j, k]) = true)
 (h1 : OW r P ρ ⟨some t, op, ty, ps, af, none⟩ A (fun v A' => ent A' I ∧ TF r P N ops I T (listed.setIfInBounds i true) m Q (upd ρ t v) ds A'))
 (h2 : OW r P ρ ⟨some t', op', ty', ps', af', none⟩ A (fun v A' => ent A' I ∧ TF r P N ops I T (listed.setIfInBounds j true) m Q (upd ρ t' v) ds A'))
 (h3 : OW r P ρ ⟨some t2, op2, ty2, ps2, af2, none⟩ A (fun v A' => ent A' I ∧ TF r P N ops I T (listed.setIfInBounds k true) m Q (upd ρ t2 v) ds A')) : TF r P N ops I T listed (m + 1) Q ρ ds A := by
 intro a w hr hs _ hc hsel hnd
 rw [beq_iff_eq] at hr1
 refine ⟨fun hz => (by rw [hz] at hr1; cases hr1), fun q hq => ?_⟩
 have hir := hq
 rw [hr1] at hq
 have hq : q = i ∨ q = j ∨ q = k := by simpa using hq
 rcases hq with rfl | rfl | rfl
 ·exact TF.step hi rfl di h1 hr hs hc hsel hnd hir
 ·exact TF.step hj rfl dj h2 hr hs hc hsel hnd hir
 ·exact TF.step hk9 rfl dk h3 hr hs hc hsel hnd hir
inductive IW
  | a
  | b (k0 : Nat)
  | c (k0 k1 : Nat) (K1 : KA) (u2 : Int)
def IW.n : IW → Nat
  | .a => 0
  | .b _ => 1
  | .c _ _ _ _ => 2
def IW.cells : IW → List Value
  | .a => [.pointer none, .pointer none]
  | .b k0 => [.pointer (some ⟨k0, 0, none⟩), .pointer none]
  | .c k0 k1 _ _ => [.pointer (some ⟨k0, 0, none⟩), .pointer (some ⟨k1, 0, none⟩)]
def IW.pc (la lb : Nat) : IW → HP
  | .a => EX fun _ : Unit => pure' True (sepL [])
  | .b k0 => EX fun _ : Unit => pure' True (sepL [isKn k0 7 (KF la lb)])
  | .c k0 k1 K1 _ => EX fun _ : Unit => pure' True (sepL [isKn k0 7 (KF la lb), isKn k1 7 K1])
def IW.ok (la lb : Nat) : IW → Prop
  | .c _ _ K1 u2 => IsoF K1 30 la lb u2
  | _ => True
theorem entL {A B : HP} (h : ent A B := by repeat (first | exact ent_nil _ | refine ent_take 0 rfl ?_ | refine ent_take 1 rfl ?_ | refine ent_take 2 rfl ?_ | refine ent_take 3 rfl ?_ | refine ent_take 4 rfl ?_ | refine ent_take 5 rfl ?_ | refine ent_take 6 rfl ?_ | refine ent_take 7 rfl ?_ | refine ent_take 8 rfl ?_ | refine ent_take 9 rfl ?_ | refine ent_take 10 rfl ?_ | refine ent_take 11 rfl ?_ | refine ent_take 12 rfl ?_ | refine ent_take 13 rfl ?_ | refine ent_take 14 rfl ?_ | refine ent_take 15 rfl ?_ | refine ent_take 16 rfl ?_ | refine ent_take 17 rfl ?_ | refine ent_take 18 rfl ?_ | refine ent_take 19 rfl ?_ | refine ent_take 20 rfl ?_ | refine ent_take 21 rfl ?_ | refine ent_take 22 rfl ?_ | refine ent_take 23 rfl ?_ | refine ent_take 24 rfl ?_ | refine ent_take 25 rfl ?_ | refine ent_take 26 rfl ?_ | refine ent_take 27 rfl ?_ | refine ent_take 28 rfl ?_ | refine ent_take 29 rfl ?_ | refine ent_take 30 rfl ?_ | refine ent_take 31 rfl ?_ | refine ent_take 32 rfl ?_ | refine ent_take 33 rfl ?_ | refine ent_take 34 rfl ?_ | refine ent_take 35 rfl ?_ | refine ent_take 36 rfl ?_ | refine ent_take 37 rfl ?_ | refine ent_take 38 rfl ?_ | refine ent_take 39 rfl ?_ | refine ent_take 40 rfl ?_ | refine ent_take 41 rfl ?_ | refine ent_take 42 rfl ?_ | refine ent_take 43 rfl ?_ | refine ent_take 44 rfl ?_ | refine ent_take 45 rfl ?_ | refine ent_take 46 rfl ?_ | refine ent_take 47 rfl ?_)) : ent A B := h
set_option maxHeartbeats 2000000 in
theorem whole_of (hAw : FSpec Tryz.prog 4 [] GV [] (fun _ : Unit => .bool true) (fun _ => True) (fun _ => [])) (limit other : Nat) (h1 : limit < 65536) (h2 : other < 65536) (ad : Option Addr) (cap : Nat) (xs : List Int) (hx : ∀ x ∈ xs, 0 ≤ x ∧ x < 256) : FSpec Tryz.prog 3 [.int .u16 (limit : Int), .int .u16 (other : Int), .slice ad xs.length cap] (fun F => GV F ∧ ∃ E, RdS F E ad (nums .u8 xs)) [] (fun _ : Unit => .bool true) (fun _ => True) (fun _ => []) := by
 refine fI Tryz.func3 Tryz.ntmps3 ?_
 intro F ⟨hF, E9, hS9⟩
 refine zz [37] ?_
 haveI : GVI F := ⟨hF⟩
 haveI : RdSI F ad E9 (nums .u8 xs) := ⟨hS9⟩
 have ha : limit % 20000 < 20000 := Nat.mod_lt _ (by decide)
 have hb : other % 10000 < 10000 := Nat.mod_lt _ (by decide)
 generalize hLA : limit % 20000 = la at *
 generalize hLB : other % 10000 = lb at *
 refine zz [0,1,9,2,0,0,1,5] ?_
 refine cl hAw rfl (picked_nil _) GVI.gv ?_
 intro _ _
 refine zz [98,64,2,10,7,0,0,1,29,172,107,2] ?_
 first | refine TC.condD rfl (fun h40 => ?_) (fun h40 => ?_) | refine TC.cond rfl (fun h40 => ?_) (fun h40 => ?_)
 ·refine zz [0,1,9,2,51] ?_
  exact zc0
 ·have h40 : xs.length ≤ 40 := by omega
  refine zz [7,0,1,5] ?_
  refine al (l := [.pointer _, .pointer _]) rfl rfl ?_
  intro b1
  refine zz [2,0,0,1,4,2,17] ?_
  refine TC.loop (ι := IW) (fun s => s.ok la lb) (fun s => [(0, .int .u16 (limit : Int)), (1, .int .u16 (other : Int)), (2, .slice ad xs.length cap), (6, .bool false), (7, .pointer (some ⟨b1, 0, none⟩)), (8, .int .i64 ((s.n : Nat) : Int))]) (fun s => sepL [pts b1 26 s.cells, s.pc la lb, F]) (fun s => 2 - s.n) .a trivial ⟨rfl, rfl, rfl, rfl, rfl, rfl, trivial⟩ (ent_take 0 rfl (ent_close () trivial entS)) ?_
  rintro s hs ρ0
  dsimp only [updL] at hs ⊢
  refine zz [0,0,1,3,38,2] ?_
  first | refine TC.condD rfl (fun hlt => ?_) (fun hlt => ?_) | refine TC.cond rfl (fun hlt => ?_) (fun hlt => ?_)
  ·cases s with
   | a => ?_
   | b k0 => ?_
   | c k0 k1 K1 u2 => exact absurd hlt (show ¬ ((2 : Nat) : Int) < 2 by decide)
   ·dsimp only [IW.n, IW.cells, IW.pc]
    refine zz [7,0,17,0,1,89,5] ?_
    refine cl (knew_ok 131072 7 131072 (.inr ⟨rfl, rfl⟩) (by decide) (by decide) 1 (by decide) (by decide)) rfl (picked_nil _) GVI.gv ?_
    intro kb _
    refine zz [46,24,2,0,1,6,3,201] ?_
    refine q rfl rfl (OQ.to (v := ((la : Nat) : Int)) (remI rfl rfl (by omega) (by omega)) (by omega)) ?_
    refine zz [138,5] ?_
    refine cl (ask_ok 1 0 3 1 la (by decide) (by omega) (by omega) (by omega) (by omega)) rfl (picked_nil _) trivial ?_
    intro w1 _
    refine zz [57,5] ?_
    refine cl (kfac1 kb la ha w1.1 w1.2) rfl PkL.p GVI.gv ?_
    intro r1 _
    refine zz [57,5] ?_
    refine al (l := [.int _ _, .int _ _, .int _ _, .slice _ _ _]) rfl rfl ?_
    intro b2
    refine zz [21,68,2,0,1,6,3,201] ?_
    refine q rfl rfl (OQ.to (v := ((lb : Nat) : Int)) (remI rfl rfl (by omega) (by omega)) (by omega)) ?_
    refine zz [138,5] ?_
    refine cl (ask_ok 1 0 4 1 lb (by decide) (by omega) (by omega) (by omega) (by omega)) rfl (picked_nil _) trivial ?_
    intro w2 _
    refine zz [49,5] ?_
    refine cl (kfac2 kb la lb ha hb w2.1 w2.2) rfl PkL.p GVI.gv ?_
    intro r2 _
    refine zz [49,5] ?_
    refine al (l := [.int _ _, .int _ _, .int _ _, .slice _ _ _]) rfl rfl ?_
    intro b3
    refine zz [21,68,2,0,0,1,47,12,23,20] ?_
    refine TL.known 49 rfl (c := false) (decide_eq_false (fun h => h rfl)) ?_
    refine zz [97,52,92,19,2] ?_
    refine TC.condD rfl (fun hc1 => absurd hc1 ((fun h => h rfl))) (fun hc1 => ?_)
    refine zz [7,0,0,1,4,2,17] ?_
    refine TC.loop (ι := Unit) (fun q7 => True) (fun q7 => [(0, .int .u16 (limit : Int)), (1, .int .u16 (other : Int)), (2, .slice ad xs.length cap), (6, .bool false), (7, .pointer (some ⟨b1, 0, none⟩)), (8, .int .i64 ((0 : Nat) : Int)), (9, .pointer (some ⟨kb, 0, none⟩)), (12, .int .i64 0)]) (fun q7 => sepL [pts b1 26 [.pointer none, .pointer none], isKn kb 7 (KF la lb), F]) (fun q7 => 0) () trivial ⟨rfl, rfl, rfl, rfl, rfl, rfl, rfl, rfl, trivial⟩ entS ?_
    rintro _ _ ρ0
    dsimp only [updL]
    refine zz [0,0,1,3,30,20] ?_
    refine TL.known 56 rfl (c := false) (decide_eq_false (by decide)) ?_
    refine zz [22,22,19,2,10,50,1,3,6] ?_
    refine q rfl rfl (ixAl 2 25 1 rfl rfl rfl (by omega) (by omega)) ?_
    refine zz [21,278,63,1,3,36,4,2] ?_
    exact ⟨rfl, (.b kb), trivial, (show 1 < 2 by decide), ⟨rfl, rfl, rfl, rfl, rfl, rfl, trivial⟩, (ent_take 0 rfl (ent_close () trivial entS))⟩
   ·dsimp only [IW.n, IW.cells, IW.pc]
    refine zz [7,0,17,0,1,89,5] ?_
    refine cl (knew_ok 131072 7 131072 (.inr ⟨rfl, rfl⟩) (by decide) (by decide) 1 (by decide) (by decide)) rfl (picked_nil _) GVI.gv ?_
    intro kb _
    refine zz [46,24,2,0,1,6,3,201] ?_
    refine q rfl rfl (OQ.to (v := ((la : Nat) : Int)) (remI rfl rfl (by omega) (by omega)) (by omega)) ?_
    refine zz [138,5] ?_
    refine cl (ask_ok 1 0 3 1 la (by decide) (by omega) (by omega) (by omega) (by omega)) rfl (picked_nil _) trivial ?_
    intro w1 _
    refine zz [57,5] ?_
    refine cl (kfac1 kb la ha w1.1 w1.2) rfl PkL.p GVI.gv ?_
    intro r1 _
    refine zz [57,5] ?_
    refine al (l := [.int _ _, .int _ _, .int _ _, .slice _ _ _]) rfl rfl ?_
    intro b4
    refine zz [21,68,2,0,1,6,3,201] ?_
    refine q rfl rfl (OQ.to (v := ((lb : Nat) : Int)) (remI rfl rfl (by omega) (by omega)) (by omega)) ?_
    refine zz [138,5] ?_
    refine cl (ask_ok 1 0 4 1 lb (by decide) (by omega) (by omega) (by omega) (by omega)) rfl (picked_nil _) trivial ?_
    intro w2 _
    refine zz [49,5] ?_
    refine cl (kfac2 kb la lb ha hb w2.1 w2.2) rfl PkL.p GVI.gv ?_
    intro r2 _
    refine zz [49,5] ?_
    refine al (l := [.int _ _, .int _ _, .int _ _, .slice _ _ _]) rfl rfl ?_
    intro b5
    refine zz [21,68,2,0,0,1,47,12,23,20] ?_
    refine TL.known 49 rfl (c := false) (decide_eq_false (fun h => h rfl)) ?_
    refine zz [97,52,92,19,2] ?_
    refine TC.condD rfl (fun hc2 => absurd hc2 ((fun h => h rfl))) (fun hc2 => ?_)
    refine zz [7,0,0,1,4,2,17] ?_
    refine TC.loop (ι := Nat × KA × Int) (fun q7 => q7.1 ≤ 30 ∧ IsoF q7.2.1 q7.1 la lb q7.2.2) (fun q7 => [(0, .int .u16 (limit : Int)), (1, .int .u16 (other : Int)), (2, .slice ad xs.length cap), (6, .bool false), (7, .pointer (some ⟨b1, 0, none⟩)), (8, .int .i64 ((1 : Nat) : Int)), (9, .pointer (some ⟨kb, 0, none⟩)), (12, .int .i64 ((q7.1 : Nat) : Int))]) (fun q7 => sepL [pts b1 26 [.pointer (some ⟨k0, 0, none⟩), .pointer none], (EX fun _ : Unit => pure' True (sepL [isKn k0 7 (KF la lb)])), isKn kb 7 q7.2.1, F]) (fun q7 => 30 - q7.1) (0, KF la lb, 0) ⟨(show 0 ≤ 30 by decide), KF_iso ha hb⟩ ⟨rfl, rfl, rfl, rfl, rfl, rfl, rfl, rfl, trivial⟩ entS ?_
    rintro ⟨j, K, u2⟩ ⟨hj, hK⟩ ρ0
    dsimp only [updL] at hj hK ⊢
    refine zz [0,0,1,3,30,20] ?_
    refine TL.known 56 rfl (c := true) (decide_eq_true rfl) ?_
    refine zz [32,88,19,2] ?_
    first | refine TC.condD rfl (fun hj30 => ?_) (fun hj30 => ?_) | refine TC.cond rfl (fun hj30 => ?_) (fun hj30 => ?_)
    ·have hj3 : j < 30 := by have := hj30; omega
     obtain ⟨cc, hcc, hcv⟩ : ∃ cc : Nat, (cc = 2 ∨ cc = 4) ∧ 2 + 2 * ((j : Int) % 2) = (cc : Int) := by
      by_cases h : j % 2 = 0
      ·exact ⟨2, .inl rfl, by omega⟩
      ·exact ⟨4, .inr rfl, by omega⟩
     refine zz [7,0,17,1,6,3] ?_
     refine q rfl rfl (OQ.to (v := ((64 + j : Nat) : Int)) (addI rfl rfl (by omega) (by omega)) (by omega)) ?_
     refine zz [3] ?_
     refine q rfl rfl (remI rfl rfl (by omega) (by omega)) ?_
     refine q rfl rfl (OQ.to (v := 2 * ((j : Int) % 2)) (mul rfl rfl (wi64 (by omega) (by omega))) rfl) ?_
     refine q rfl rfl (OQ.to (v := (cc : Int)) (addI rfl rfl (by omega) (by omega)) hcv) ?_
     refine zz [138,5] ?_
     refine cl (ask_ok 1 4 (64 + j) cc 0 (by decide) (by omega) (by omega) (by omega) (by omega)) rfl (picked_nil _) trivial ?_
     intro w3 _
     refine zz [57,5] ?_
     refine cl (kfill kb K j cc la lb u2 hK hj3 hcc w3.1 w3.2) rfl PkL.p GVI.gv ?_
     intro r3 _
     refine zz [57,63,1,3,36,4,2] ?_
     exact ⟨rfl, (j + 1, nxF K (64 + j) cc la lb u2, nxU cc lb u2), ⟨by omega, hK.next cc⟩, (by show 30 - (j + 1) < 30 - j; omega), ⟨rfl, rfl, rfl, rfl, rfl, rfl, rfl, rfl, trivial⟩, entS⟩
    ·obtain rfl : j = 30 := by have := hj30; omega
     refine zz [50,1,3,6] ?_
     refine q rfl rfl (ixAl 2 25 1 rfl rfl rfl (by omega) (by omega)) ?_
     refine zz [21,278,63,1,3,36,4,2] ?_
     exact ⟨rfl, (.c k0 kb K u2), hK, (show 0 < 1 by decide), ⟨rfl, rfl, rfl, rfl, rfl, rfl, trivial⟩, (ent_openAt 1 rfl (fun _ _ => (ent_take 1 rfl (ent_close () trivial entS))))⟩
  ·cases s with
   | a => exact absurd (show ((0 : Nat) : Int) < 2 by decide) hlt
   | b k0 => exact absurd (show ((1 : Nat) : Int) < 2 by decide) hlt
   | c k0 k1 K1 u2 => ?_
   dsimp only [IW.n, IW.cells, IW.pc]
   have hF0 : IsoF K1 30 la lb u2 := hs
   refine TC.open 1 rfl (fun x0 hx0 => ?_)
   obtain ⟨⟩ := x0
   clear hx0
   refine zz [77,50,0,0,1,4,2,17] ?_
   refine TC.loop (ι := Nat × KA × KA × Int) (fun q7 => q7.1 ≤ xs.length ∧ IsoK q7.2.1 q7.1 q7.1 la q7.2.2.2 lb 0 ∧ IsoK q7.2.2.1 (30 + q7.1) q7.1 la q7.2.2.2 lb u2) (fun q7 => [(2, .slice ad xs.length cap), (6, .bool false), (7, .pointer (some ⟨b1, 0, none⟩)), (13, .int .i64 ((q7.1 : Nat) : Int))]) (fun q7 => sepL [pts b1 26 [.pointer (some ⟨k0, 0, none⟩), .pointer (some ⟨k1, 0, none⟩)], isKn k0 7 q7.2.1, isKn k1 7 q7.2.2.1, F]) (fun q7 => xs.length - q7.1) (0, KF la lb, K1, 0) ⟨Nat.zero_le _, (KF_iso ha hb).iso (by decide), hF0.iso (by decide)⟩ ⟨rfl, rfl, rfl, rfl, trivial⟩ entS ?_
   rintro ⟨i, Ka, Kb, u1⟩ ⟨hi, hKa, hKb⟩ ρ0
   dsimp only [updL] at hi hKa hKb ⊢
   refine zz [0,0,1,3,29,172,38,2] ?_
   first | refine TC.condD rfl (fun hix => ?_) (fun hix => ?_) | refine TC.cond rfl (fun hix => ?_) (fun hix => ?_)
   ·have hi2 : i < xs.length := by have := hix; omega
    have hc0 : 0 < (nums .u8 xs).length := by rw [nums_length]; omega
    obtain ⟨x, hxi⟩ : ∃ x, xs[i]? = some x := ⟨_, List.getElem?_eq_getElem hi2⟩
    have hxr := hx x (List.mem_of_getElem? hxi)
    have hix2 : (nums .u8 xs)[i]? = some (.int .u8 x) := by rw [nums, List.getElem?_map, hxi]; rfl
    refine zz [7,0,17] ?_
    refine TC.cut (ι := Nat) (fun q6 => q6 = 8 ∨ q6 = 2 ∨ q6 = 4 ∨ q6 = 5) (fun q6 => [(2, .slice ad xs.length cap), (6, .bool false), (7, .pointer (some ⟨b1, 0, none⟩)), (13, .int .i64 (i : Int)), (14, .int .i64 (q6 : Int))]) (fun q6 => sepL [pts b1 26 [.pointer (some ⟨k0, 0, none⟩), .pointer (some ⟨k1, 0, none⟩)], isKn k0 7 Ka, isKn k1 7 Kb, F]) ?_ ?_
    ·have hx4 : x % 4 = 0 ∨ x % 4 = 1 ∨ x % 4 = 2 ∨ x % 4 = 3 := by omega
     rcases hx4 with h4 | h4 | h4 | h4
     ·refine zz [1,5] ?_
      refine bs (E := 3) (sz := 1) (cs := ints [2, 4, 5, 8]) (by kernel_rfl) ?_
      intro b6
      refine zz [29,3,202] ?_
      first | refine q rfl rfl (ldS rfl rfl (by simpa using hix2)) ?_ | refine q rfl rfl (ldS rfl rfl (by rw [show 0 + i * 1 = i by omega]; exact hix2)) ?_
      refine zz [203] ?_
      refine q rfl rfl (OQ.to (v := 0) (remI rfl rfl (by omega) (by omega)) h4) ?_
      refine zz [81,12,4,2] ?_
      exact ⟨rfl, 2, (by decide), ⟨rfl, rfl, rfl, rfl, rfl, trivial⟩, entS⟩
     ·refine zz [1,5] ?_
      refine bs (E := 3) (sz := 1) (cs := ints [2, 4, 5, 8]) (by kernel_rfl) ?_
      intro b7
      refine zz [29,3,202] ?_
      first | refine q rfl rfl (ldS rfl rfl (by simpa using hix2)) ?_ | refine q rfl rfl (ldS rfl rfl (by rw [show 0 + i * 1 = i by omega]; exact hix2)) ?_
      refine zz [203] ?_
      refine q rfl rfl (OQ.to (v := 1) (remI rfl rfl (by omega) (by omega)) h4) ?_
      refine zz [81,12,4,2] ?_
      exact ⟨rfl, 4, (by decide), ⟨rfl, rfl, rfl, rfl, rfl, trivial⟩, entS⟩
     ·refine zz [1,5] ?_
      refine bs (E := 3) (sz := 1) (cs := ints [2, 4, 5, 8]) (by kernel_rfl) ?_
      intro b8
      refine zz [29,3,202] ?_
      first | refine q rfl rfl (ldS rfl rfl (by simpa using hix2)) ?_ | refine q rfl rfl (ldS rfl rfl (by rw [show 0 + i * 1 = i by omega]; exact hix2)) ?_
      refine zz [203] ?_
      refine q rfl rfl (OQ.to (v := 2) (remI rfl rfl (by omega) (by omega)) h4) ?_
      refine zz [81,12,4,2] ?_
      exact ⟨rfl, 5, (by decide), ⟨rfl, rfl, rfl, rfl, rfl, trivial⟩, entS⟩
     ·refine zz [1,5] ?_
      refine bs (E := 3) (sz := 1) (cs := ints [2, 4, 5, 8]) (by kernel_rfl) ?_
      intro b9
      refine zz [29,3,202] ?_
      first | refine q rfl rfl (ldS rfl rfl (by simpa using hix2)) ?_ | refine q rfl rfl (ldS rfl rfl (by rw [show 0 + i * 1 = i by omega]; exact hix2)) ?_
      refine zz [203] ?_
      refine q rfl rfl (OQ.to (v := 3) (remI rfl rfl (by omega) (by omega)) h4) ?_
      refine zz [81,12,4,2] ?_
      exact ⟨rfl, 8, (by decide), ⟨rfl, rfl, rfl, rfl, rfl, trivial⟩, entS⟩
    ·rintro kk hkk ρ1
     dsimp only [updL]
     refine zz [0,1,3] ?_
     refine q rfl rfl (OQ.to (v := ((16 + i : Nat) : Int)) (addI rfl rfl (by omega) (by omega)) (by omega)) ?_
     refine zz [4,2] ?_
     refine TC.cut (ι := Nat) (fun q5 => kk = 8 ∧ q5 = 128 + i ∨ (kk = 2 ∨ kk = 4 ∨ kk = 5) ∧ q5 = 16 + i) (fun q5 => [(2, .slice ad xs.length cap), (6, .bool false), (7, .pointer (some ⟨b1, 0, none⟩)), (13, .int .i64 (i : Int)), (14, .int .i64 (kk : Int)), (15, .int .i64 (q5 : Int))]) (fun q5 => sepL [pts b1 26 [.pointer (some ⟨k0, 0, none⟩), .pointer (some ⟨k1, 0, none⟩)], isKn k0 7 Ka, isKn k1 7 Kb, F]) ?_ ?_
     ·refine zz [0,1,3,30,2] ?_
      first | refine TC.condD rfl (fun h8 => ?_) (fun h8 => ?_) | refine TC.cond rfl (fun h8 => ?_) (fun h8 => ?_)
      ·have hk8 : kk = 8 := by omega
       refine zz [1,3] ?_
       refine q rfl rfl (OQ.to (v := ((128 + i : Nat) : Int)) (addI rfl rfl (by omega) (by omega)) (by omega)) ?_
       refine zz [4,2] ?_
       exact ⟨rfl, (128 + i), (.inl ⟨hk8, rfl⟩), ⟨rfl, rfl, rfl, rfl, rfl, rfl, trivial⟩, entS⟩
      ·have hk8 : kk = 2 ∨ kk = 4 ∨ kk = 5 := by omega
       refine zz [7] ?_
       exact ⟨rfl, (16 + i), (.inr ⟨hk8, rfl⟩), ⟨rfl, rfl, rfl, rfl, rfl, rfl, trivial⟩, entS⟩
     ·rintro sl hsl ρ2
      dsimp only [updL]
      have hsl9 : sl = 16 + i ∨ sl = 128 + i := by omega
      refine zz [0,1,3,3,138,5] ?_
      refine cl (ask_ok 1 3 sl kk 0 (by decide) (by omega) (by omega) (by omega) (by omega)) rfl (picked_nil _) trivial ?_
      intro w5 _
      refine zz [57,5] ?_
      refine al (l := [.int _ _, .int _ _, .slice _ _ _]) rfl rfl ?_
      intro b10
      refine zz [21,48,2] ?_
      refine TC.cut (ι := Nat × Nat × (Nat × Option Addr × Nat) × (Nat × Option Addr × Nat)) (fun q8 => True) (fun q8 => [(2, .slice ad xs.length cap), (6, .bool false), (7, .pointer (some ⟨b1, 0, none⟩)), (13, .int .i64 (i : Int)), (17, .pointer (some ⟨q8.1, 0, none⟩)), (18, .pointer (some ⟨q8.2.1, 0, none⟩))]) (fun q8 => sepL [pts q8.1 34 [.int .i64 (nxE kk la u1), .int .u64 (q8.2.2.1.1 : Int), .int .i64 2, .slice q8.2.2.1.2.1 0 q8.2.2.1.2.2], pts q8.2.1 34 [.int .i64 (nxE kk la u1), .int .u64 (q8.2.2.2.1 : Int), .int .i64 2, .slice q8.2.2.2.2.1 0 q8.2.2.2.2.2], pts b1 26 [.pointer (some ⟨k0, 0, none⟩), .pointer (some ⟨k1, 0, none⟩)], isKn k0 7 (nxK Ka sl kk la u1 lb 0), isKn k1 7 (nxK Kb sl kk la u1 lb u2), F]) ?_ ?_
      ·refine TC.drawF _ [11] 12 rfl (by kernel_rfl) (by kernel_rfl) (show ent (sepL _) (sepL [pts b1 26 [.pointer (some ⟨k0, 0, none⟩), .pointer (some ⟨k1, 0, none⟩)], pts b10 38 [.int .i64 0, .int .i64 0, .slice w5.1 2 w5.2]]) from entS) ?_
       refine fq (i := 0) rfl rfl rfl (by kernel_rfl) (ixAl 2 25 1 rfl rfl rfl (by omega) (by omega)) ?_
       first | refine fq (i := 1) rfl rfl rfl (by kernel_rfl) (ld rfl rfl rfl) ?_ | refine fq (i := 1) rfl rfl rfl (by kernel_rfl) (ldS rfl rfl rfl) ?_
       first | refine fq (i := 2) rfl rfl rfl (by kernel_rfl) (ldN (vs := [_, _, _]) 3 rfl rfl rfl rfl) ?_ | refine fq (i := 2) rfl rfl rfl (by kernel_rfl) (ldSN (vs := [_, _, _]) 3 rfl rfl rfl rfl (by decide)) ?_
       refine fq (i := 4) rfl rfl rfl (by kernel_rfl) (ixAl 2 25 1 rfl rfl rfl (by omega) (by omega)) ?_
       refine zz [219] ?_
       first | refine fq (i := 6) rfl rfl rfl (by kernel_rfl) (ldN (vs := [_, _, _]) 3 rfl rfl rfl rfl) ?_ | refine fq (i := 6) rfl rfl rfl (by kernel_rfl) (ldSN (vs := [_, _, _]) 3 rfl rfl rfl rfl (by decide)) ?_
       refine ff3 (i := 3) (j := 8) (k := 9) rfl rfl rfl rfl rfl rfl (by kernel_rfl) ?_ ?_ ?_
       ·refine cl (kiso k0 Ka i i sl kk la u1 lb 0 hKa (by omega) (by omega) hsl w5.1 w5.2) rfl PkL.p GVI.gv ?_
        intro y1 _
        refine zz [279,8] ?_
        refine ff3 (i := 7) (j := 8) (k := 9) rfl rfl rfl rfl rfl rfl (by kernel_rfl) ?_ ?_ ?_
        ·refine cl (kiso k1 Kb (30 + i) i sl kk la u1 lb u2 hKb (by omega) (by omega) hsl w5.1 w5.2) rfl PkL.p GVI.gv ?_
         intro y2 _
         refine zz [279,8] ?_
         refine ff (i := 8) (j := 9) rfl rfl rfl rfl (by kernel_rfl) ?_ ?_
         ·refine al (l := [.int .i64 0, .int .u64 0, .int .i64 0, .slice none 0 0]) rfl rfl ?_
          intro BA
          refine zz [8,232,16] ?_
          refine al (l := [.int .i64 0, .int .u64 0, .int .i64 0, .slice none 0 0]) rfl rfl ?_
          intro BB
          refine zz [8,61,68,8,70,68,27] ?_
          exact ⟨rfl, (BA, BB, y1, y2), trivial, ⟨rfl, rfl, rfl, rfl, rfl, rfl, trivial⟩, entS⟩
         ·refine al (l := [.int .i64 0, .int .u64 0, .int .i64 0, .slice none 0 0]) rfl rfl ?_
          intro BB
          refine zz [8,233,16] ?_
          refine al (l := [.int .i64 0, .int .u64 0, .int .i64 0, .slice none 0 0]) rfl rfl ?_
          intro BA
          refine zz [8,61,68,8,70,68,27] ?_
          exact ⟨rfl, (BA, BB, y1, y2), trivial, ⟨rfl, rfl, rfl, rfl, rfl, rfl, trivial⟩, entS⟩
        ·refine al (l := [.int .i64 0, .int .u64 0, .int .i64 0, .slice none 0 0]) rfl rfl ?_
         intro BA
         refine ⟨entS, ?_⟩
         refine ff (i := 7) (j := 9) rfl rfl rfl rfl (by kernel_rfl) ?_ ?_
         ·refine cl (kiso k1 Kb (30 + i) i sl kk la u1 lb u2 hKb (by omega) (by omega) hsl w5.1 w5.2) rfl PkL.p GVI.gv ?_
          intro y2 _
          refine zz [168,8,232,16] ?_
          refine al (l := [.int .i64 0, .int .u64 0, .int .i64 0, .slice none 0 0]) rfl rfl ?_
          intro BB
          refine zz [8,61,68,8,70,68,27] ?_
          exact ⟨rfl, (BA, BB, y1, y2), trivial, ⟨rfl, rfl, rfl, rfl, rfl, rfl, trivial⟩, entS⟩
         ·refine al (l := [.int .i64 0, .int .u64 0, .int .i64 0, .slice none 0 0]) rfl rfl ?_
          intro BB
          refine zz [8,204,16] ?_
          refine cl (kiso k1 Kb (30 + i) i sl kk la u1 lb u2 hKb (by omega) (by omega) hsl w5.1 w5.2) rfl PkL.p GVI.gv ?_
          intro y2 _
          refine zz [100,8,61,68,8,70,68,27] ?_
          exact ⟨rfl, (BA, BB, y1, y2), trivial, ⟨rfl, rfl, rfl, rfl, rfl, rfl, trivial⟩, entS⟩
        ·refine al (l := [.int .i64 0, .int .u64 0, .int .i64 0, .slice none 0 0]) rfl rfl ?_
         intro BB
         refine ⟨entS, ?_⟩
         refine ff (i := 7) (j := 8) rfl rfl rfl rfl (by kernel_rfl) ?_ ?_
         ·refine cl (kiso k1 Kb (30 + i) i sl kk la u1 lb u2 hKb (by omega) (by omega) hsl w5.1 w5.2) rfl PkL.p GVI.gv ?_
          intro y2 _
          refine zz [168,8,233,16] ?_
          refine al (l := [.int .i64 0, .int .u64 0, .int .i64 0, .slice none 0 0]) rfl rfl ?_
          intro BA
          refine zz [8,61,68,8,70,68,27] ?_
          exact ⟨rfl, (BA, BB, y1, y2), trivial, ⟨rfl, rfl, rfl, rfl, rfl, rfl, trivial⟩, entS⟩
         ·refine al (l := [.int .i64 0, .int .u64 0, .int .i64 0, .slice none 0 0]) rfl rfl ?_
          intro BA
          refine zz [8,204,16] ?_
          refine cl (kiso k1 Kb (30 + i) i sl kk la u1 lb u2 hKb (by omega) (by omega) hsl w5.1 w5.2) rfl PkL.p GVI.gv ?_
          intro y2 _
          refine zz [100,8,61,68,8,70,68,27] ?_
          exact ⟨rfl, (BA, BB, y1, y2), trivial, ⟨rfl, rfl, rfl, rfl, rfl, rfl, trivial⟩, entS⟩
       ·refine al (l := [.int .i64 0, .int .u64 0, .int .i64 0, .slice none 0 0]) rfl rfl ?_
        intro BA
        refine ⟨entS, ?_⟩
        refine ff (i := 3) (j := 9) rfl rfl rfl rfl (by kernel_rfl) ?_ ?_
        ·refine cl (kiso k0 Ka i i sl kk la u1 lb 0 hKa (by omega) (by omega) hsl w5.1 w5.2) rfl PkL.p GVI.gv ?_
         intro y1 _
         refine zz [168,8] ?_
         refine ff (i := 7) (j := 9) rfl rfl rfl rfl (by kernel_rfl) ?_ ?_
         ·refine cl (kiso k1 Kb (30 + i) i sl kk la u1 lb u2 hKb (by omega) (by omega) hsl w5.1 w5.2) rfl PkL.p GVI.gv ?_
          intro y2 _
          refine zz [168,8,232,16] ?_
          refine al (l := [.int .i64 0, .int .u64 0, .int .i64 0, .slice none 0 0]) rfl rfl ?_
          intro BB
          refine zz [8,61,68,8,70,68,27] ?_
          exact ⟨rfl, (BA, BB, y1, y2), trivial, ⟨rfl, rfl, rfl, rfl, rfl, rfl, trivial⟩, entS⟩
         ·refine al (l := [.int .i64 0, .int .u64 0, .int .i64 0, .slice none 0 0]) rfl rfl ?_
          intro BB
          refine zz [8,204,16] ?_
          refine cl (kiso k1 Kb (30 + i) i sl kk la u1 lb u2 hKb (by omega) (by omega) hsl w5.1 w5.2) rfl PkL.p GVI.gv ?_
          intro y2 _
          refine zz [100,8,61,68,8,70,68,27] ?_
          exact ⟨rfl, (BA, BB, y1, y2), trivial, ⟨rfl, rfl, rfl, rfl, rfl, rfl, trivial⟩, entS⟩
        ·refine al (l := [.int .i64 0, .int .u64 0, .int .i64 0, .slice none 0 0]) rfl rfl ?_
         intro BB
         refine zz [8,280,16] ?_
         refine cl (kiso k0 Ka i i sl kk la u1 lb 0 hKa (by omega) (by omega) hsl w5.1 w5.2) rfl PkL.p GVI.gv ?_
         intro y1 _
         refine zz [100,8,16] ?_
         refine cl (kiso k1 Kb (30 + i) i sl kk la u1 lb u2 hKb (by omega) (by omega) hsl w5.1 w5.2) rfl PkL.p GVI.gv ?_
         intro y2 _
         refine zz [100,8,61,68,8,70,68,27] ?_
         exact ⟨rfl, (BA, BB, y1, y2), trivial, ⟨rfl, rfl, rfl, rfl, rfl, rfl, trivial⟩, entS⟩
       ·refine al (l := [.int .i64 0, .int .u64 0, .int .i64 0, .slice none 0 0]) rfl rfl ?_
        intro BB
        refine ⟨entS, ?_⟩
        refine ff (i := 3) (j := 8) rfl rfl rfl rfl (by kernel_rfl) ?_ ?_
        ·refine cl (kiso k0 Ka i i sl kk la u1 lb 0 hKa (by omega) (by omega) hsl w5.1 w5.2) rfl PkL.p GVI.gv ?_
         intro y1 _
         refine zz [168,8] ?_
         refine ff (i := 7) (j := 8) rfl rfl rfl rfl (by kernel_rfl) ?_ ?_
         ·refine cl (kiso k1 Kb (30 + i) i sl kk la u1 lb u2 hKb (by omega) (by omega) hsl w5.1 w5.2) rfl PkL.p GVI.gv ?_
          intro y2 _
          refine zz [168,8,233,16] ?_
          refine al (l := [.int .i64 0, .int .u64 0, .int .i64 0, .slice none 0 0]) rfl rfl ?_
          intro BA
          refine zz [8,61,68,8,70,68,27] ?_
          exact ⟨rfl, (BA, BB, y1, y2), trivial, ⟨rfl, rfl, rfl, rfl, rfl, rfl, trivial⟩, entS⟩
         ·refine al (l := [.int .i64 0, .int .u64 0, .int .i64 0, .slice none 0 0]) rfl rfl ?_
          intro BA
          refine zz [8,204,16] ?_
          refine cl (kiso k1 Kb (30 + i) i sl kk la u1 lb u2 hKb (by omega) (by omega) hsl w5.1 w5.2) rfl PkL.p GVI.gv ?_
          intro y2 _
          refine zz [100,8,61,68,8,70,68,27] ?_
          exact ⟨rfl, (BA, BB, y1, y2), trivial, ⟨rfl, rfl, rfl, rfl, rfl, rfl, trivial⟩, entS⟩
        ·refine al (l := [.int .i64 0, .int .u64 0, .int .i64 0, .slice none 0 0]) rfl rfl ?_
         intro BA
         refine zz [8,280,16] ?_
         refine cl (kiso k0 Ka i i sl kk la u1 lb 0 hKa (by omega) (by omega) hsl w5.1 w5.2) rfl PkL.p GVI.gv ?_
         intro y1 _
         refine zz [100,8,16] ?_
         refine cl (kiso k1 Kb (30 + i) i sl kk la u1 lb u2 hKb (by omega) (by omega) hsl w5.1 w5.2) rfl PkL.p GVI.gv ?_
         intro y2 _
         refine zz [100,8,61,68,8,70,68,27] ?_
         exact ⟨rfl, (BA, BB, y1, y2), trivial, ⟨rfl, rfl, rfl, rfl, rfl, rfl, trivial⟩, entS⟩
      ·rintro ⟨p1, p2, y1, y2⟩ _ ρ0
       dsimp only [updL]
       have hE : nxE kk la u1 = 0 ∨ nxE kk la u1 = 5 := by
        rw [nxE]; split
        ·exact .inl rfl
        ·exact .inr rfl
       rcases hE with hE | hE
       ·rw [hE]
        refine zz [0,1,14,12,14,12,23,20] ?_
        refine TL.known 113 rfl (c := false) (decide_eq_false (fun h => h rfl)) ?_
        refine zz [96,52,92,117] ?_
        refine TL.known 117 rfl (c := false) (decide_eq_false (fun h => h rfl)) ?_
        refine zz [22,22,22,108,19,2,10,42,1,3,36,4,2] ?_
        exact ⟨rfl, (i + 1, nxK Ka sl kk la u1 lb 0, nxK Kb sl kk la u1 lb u2, nxU kk la u1), ⟨by omega, hKa.next hsl9, hKb.next hsl9⟩, (by show xs.length - (i + 1) < xs.length - i; omega), ⟨rfl, rfl, rfl, rfl, trivial⟩, entS⟩
       ·rw [hE]
        refine zz [0,1,14,12,14,12,23,20] ?_
        refine TL.known 113 rfl (c := false) (decide_eq_false (fun h => h rfl)) ?_
        refine zz [96,52,92,117] ?_
        refine TL.known 117 rfl (c := true) (decide_eq_true (by decide)) ?_
        refine zz [96,52,92,108,19,2] ?_
        refine TC.condD rfl (fun hc3 => absurd hc3 ((fun h => h rfl))) (fun hc3 => ?_)
        refine zz [42,1,3,36,4,2] ?_
        exact ⟨rfl, (i + 1, nxK Ka sl kk la u1 lb 0, nxK Kb sl kk la u1 lb u2, nxU kk la u1), ⟨by omega, hKa.next hsl9, hKb.next hsl9⟩, (by show xs.length - (i + 1) < xs.length - i; omega), ⟨rfl, rfl, rfl, rfl, trivial⟩, entS⟩
   ·refine TC.open 1 rfl (fun x0 hx0 => ?_)
    obtain ⟨ib0, crb0, hob0, sb0, thb0, irb0, hm0, gm0, lm0, fb0, cb0, pb0, hb0, qb0, t0, at90, S0, l0, L0, last0, gf0, gn0, qf0, qn0, lf0, ln0, uu0, pd0⟩ := x0
    have hI0 := hx0
    change TC _ _ _ _ _ _ _ (sepL [_, _, _, _, _, _, _, _, _, _, _, _, _, _, _, _, _, _])
    dsimp only at hI0 ⊢
    refine TC.open 16 rfl (fun x0 hx0 => ?_)
    obtain ⟨ib1, crb1, hob1, sb1, thb1, irb1, hm1, gm1, lm1, fb1, cb1, pb1, hb1, qb1, t1, at91, S1, l1, L1, last1, gf1, gn1, qf1, qn1, lf1, ln1, uu1, pd1⟩ := x0
    have hI1 := hx0
    change TC _ _ _ _ _ _ _ (sepL [_, _, _, _, _, _, _, _, _, _, _, _, _, _, _, _, _, _, _, _, _, _, _, _, _, _, _, _, _, _, _, _])
    dsimp only at hI1 ⊢
    refine TC.open 21 rfl (fun x0 hx0 => ?_)
    obtain ⟨tt0, bd0, ar0, ca0⟩ := x0
    have hP0 := hx0
    change TC _ _ _ _ _ _ _ (sepL [_, _, _, _, _, _, _, _, _, _, _, _, _, _, _, _, _, _, _, _, _, _, _, _, _, _, _, _, _, _, _, _, _, _, _, _])
    refine TC.open 11 rfl (fun x0 hx0 => ?_)
    obtain ⟨tt1, bd1, ar1, ca1⟩ := x0
    have hP1 := hx0
    change TC _ _ _ _ _ _ _ (sepL [_, _, _, _, _, _, _, _, _, _, _, _, _, _, _, _, _, _, _, _, _, _, _, _, _, _, _, _, _, _, _, _, _, _, _, _, _, _, _, _])
    dsimp only at hP0 hP1 ⊢
    have hq0 : S0.Q = ⟨0, -1, Ka.lim, uu0⟩ :: Ka.r := hI0.Q.2.2
    have hq1 : S1.Q = ⟨0, -1, Kb.lim, uu1⟩ :: Kb.r := hI1.Q.2.2
    have hU0 : Qt.useQ S0.Q 1 = u1 := by rw [hq0, hKa.r]; exact R2_use _ _ _ _ _ _
    have hU1 : Qt.useQ S1.Q 1 = u1 := by rw [hq1, hKb.r]; exact R2_use _ _ _ _ _ _
    have hL0 : Qt.limQ S0.Q 1 = la := by rw [hq0, hKa.r]; exact R2_lim _ _ _ _ _ _
    have hle : u1 ≤ la := hKa.L.2.1
    refine zz [50,0] ?_
    refine TC.draw _ [] [(0, false), (1, false), (5, false), (6, false), (2, true), (3, true), (4, true), (7, true), (8, true), (9, true), (10, false), (11, false)] (by kernel_rfl) (by kernel_rfl) (ent_take 38 rfl (ent_nil _)) ?_
    refine zz [281,18,281,18,16] ?_
    refine cl (objects_ok k0 ib0 crb0 hob0 sb0 thb0 irb0 hm0 gm0 lm0 cb0 fb0) rfl (picked_cons 24 rfl (picked_cons 24 rfl (picked_cons 24 rfl (picked_cons 24 rfl (picked_cons 24 rfl (picked_nil _)))))) trivial ?_
    intro _ _
    refine zz [169] ?_
    refine ⟨entL, ?_⟩
    refine zz [16] ?_
    refine cl (comem_ok cb0 pb0 hb0 qb0) rfl (picked_cons 29 rfl (picked_nil _)) trivial ?_
    intro _ _
    refine zz [169] ?_
    refine ⟨entL, ?_⟩
    refine zz [16] ?_
    refine cl (plquota_ok pb0 tt0 bd0 ar0 ca0) rfl (picked_cons 11 rfl (picked_nil _)) trivial ?_
    intro _ _
    refine zz [169] ?_
    refine ⟨entL, ?_⟩
    refine zz [16] ?_
    refine cl (objects_ok k1 ib1 crb1 hob1 sb1 thb1 irb1 hm1 gm1 lm1 cb1 fb1) rfl (picked_cons 16 rfl (picked_cons 16 rfl (picked_cons 16 rfl (picked_cons 16 rfl (picked_cons 16 rfl (picked_nil _)))))) trivial ?_
    intro _ _
    refine zz [169] ?_
    refine ⟨entL, ?_⟩
    refine zz [16] ?_
    refine cl (comem_ok cb1 pb1 hb1 qb1) rfl (picked_cons 21 rfl (picked_nil _)) trivial ?_
    intro _ _
    refine zz [169] ?_
    refine ⟨entL, ?_⟩
    refine zz [16] ?_
    refine cl (plquota_ok pb1 tt1 bd1 ar1 ca1) rfl (picked_cons 13 rfl (picked_nil _)) trivial ?_
    intro _ _
    refine zz [169] ?_
    refine ⟨entL, ?_⟩
    refine zz [234,234,27,0,1,6,5] ?_
    refine cl (Qt.quses_ok tt0 S0.Q S0.nx 1) rfl (picked_cons 18 rfl (picked_nil _)) trivial ?_
    intro _ _
    refine zz [205] ?_
    rw [hU0]
    refine zz [6,5] ?_
    refine cl (Qt.quses_ok tt1 S1.Q S1.nx 1) rfl (picked_cons 15 rfl (picked_nil _)) trivial ?_
    intro _ _
    refine zz [205] ?_
    rw [hU1]
    refine zz [30,20] ?_
    refine TL.known 138 rfl (c := true) (decide_eq_true rfl) ?_
    refine zz [85,59] ?_
    refine cl (Qt.quses_ok tt0 S0.Q S0.nx 1) rfl (picked_cons 1 rfl (picked_nil _)) trivial ?_
    intro _ _
    refine zz [205] ?_
    rw [hU0]
    refine zz [85,59] ?_
    refine cl (Qt.qlim_ok tt0 S0.Q S0.nx 1) rfl (picked_cons 0 rfl (picked_nil _)) trivial ?_
    intro _ _
    refine zz [205] ?_
    rw [hL0]
    refine zz [150,19,9,2,11] ?_
    exact Ret.i () [_] ⟨rfl, trivial⟩ (congrArg Value.bool (decide_eq_true hle)) trivial entL
theorem r22same_ok (er x rn : Int) (a1 a2 : Option Addr) (c1 c2 : Nat) : FSpec Tryz.prog 14 [.agg #[.int .i64 er, .int .u64 x, .int .i64 rn, .slice a1 0 c1], .agg #[.int .i64 er, .int .u64 x, .int .i64 rn, .slice a2 0 c2]] noRd [] (fun _ : Unit => .bool true) (fun _ => True) (fun _ => []) := by
 refine fI Tryz.func14 Tryz.ntmps14 ?_
 intro F _
 refine zz [37,0,1,5] ?_
 refine bx (v := .agg #[_, _, _, _]) (l := [.int _ _, .int _ _, .int _ _, .slice _ _ _]) rfl rfl ?_
 intro b1
 refine e rfl ?_
 refine bx (v := .agg #[_, _, _, _]) (l := [.int _ _, .int _ _, .int _ _, .slice _ _ _]) rfl rfl ?_
 intro b2
 refine zz [9,2,0,1,14,12,14,12,30,20] ?_
 refine TL.known 10 rfl (c := true) (decide_eq_true rfl) ?_
 refine zz [97,52,97,52,74,19,20] ?_
 refine TL.known 17 rfl (c := true) (decide_eq_true rfl) ?_
 refine zz [151,52,151,52,74,19,20] ?_
 refine TL.known 24 rfl (c := true) (decide_eq_true rfl) ?_
 refine zz [164,52,164,52,59] ?_
 refine cl (tsame_ok a1 c1 [] a2 c2 [] (by decide)) rfl (picked_nil _) ⟨⟨0, fun _ _ => .inl rfl⟩, ⟨0, fun _ _ => .inl rfl⟩⟩ ?_
 intro _ _
 refine zz [43,19,9,2,11] ?_
 exact zc0
theorem uword_ok (ub ar at9 i : Nat) (ha : at9 ≤ 1000000) (hi : i ≤ 100) : FSpec Tryz.prog 299 [.pointer (some ⟨ub, 0, none⟩), .int .i64 (i : Int)] noRd [pts ub 417 [.pointer (some ⟨ar, 0, none⟩), .int .i64 (at9 : Int)]] (fun _ : Unit => .int .i64 ((at9 + i * 8 : Nat) : Int)) (fun _ => True) (fun _ => [pts ub 417 [.pointer (some ⟨ar, 0, none⟩), .int .i64 (at9 : Int)]]) := by
 refine fI Tryz.func299 Tryz.ntmps299 ?_
 intro F _
 refine zz [39,0,1,4,2,0,1,6,13,47,12,3] ?_
 refine q rfl rfl (OQ.to (v := ((i * 8 : Nat) : Int)) (mul rfl rfl (wi64 (by omega) (by omega))) (by omega)) ?_
 refine q rfl rfl (OQ.to (v := ((at9 + i * 8 : Nat) : Int)) (addI rfl rfl (by omega) (by omega)) (by omega)) ?_
 refine zz [4,2,11] ?_
 exact zc0
theorem uload_ok (ub ar at9 i n : Nat) (m : Nat → Nat) (hn : n ≤ 131072) (ha : at9 + 256 ≤ n) (h8 : at9 % 8 = 0) (hi : i < 32) : FSpec Tryz.prog 309 [.pointer (some ⟨ub, 0, none⟩), .int .i64 (i : Int)] noRd [pts ub 417 [.pointer (some ⟨ar, 0, none⟩), .int .i64 (at9 : Int)], isAr ar m n] (fun _ : Unit => .int .u64 (ldW m (at9 + i * 8) : Int)) (fun _ => True) (fun _ => [pts ub 417 [.pointer (some ⟨ar, 0, none⟩), .int .i64 (at9 : Int)], isAr ar m n]) := by
 refine fI Tryz.func309 Tryz.ntmps309 ?_
 intro F _
 refine zz [44,0,1,4,2,0] ?_
 refine TC.draw _ [] [(0, false), (1, false), (2, false), (3, false), (4, false), (5, false), (6, true), (7, true), (8, false), (9, false), (10, false), (11, false), (12, false)] (by kernel_rfl) (by kernel_rfl) (ent_take 0 rfl (ent_nil _)) ?_
 refine zz [28,31,25,18,28,33,16] ?_
 refine cl (uword_ok ub ar at9 i (by omega) (by omega)) rfl PkL.p trivial ?_
 intro _ _
 refine zz [115,8,16] ?_
 refine cl (arload_ok ar n (at9 + i * 8) m hn (by omega) (by omega)) rfl PkL.p trivial ?_
 intro _ _
 refine zz [115,8,83,55,55,41,41,27,0,1,3,4,2,11] ?_
 exact zc0
theorem uat_ok (ar at9 n : Nat) (m : Nat → Nat) (hn : n ≤ 131072) (ha : at9 + 256 ≤ n) (h8 : at9 % 8 = 0) : FSpec Tryz.prog 298 [.pointer (some ⟨ar, 0, none⟩), .int .i64 (at9 : Int)] noRd [isAr ar m n] (fun ub : Nat => .pointer (some ⟨ub, 0, none⟩)) (fun _ => True) (fun ub => [pts ub 417 [.pointer (some ⟨ar, 0, none⟩), .int .i64 (at9 : Int)], isAr ar m n]) := by
 refine fI Tryz.func298 Tryz.ntmps298 ?_
 intro F _
 refine zz [39,0,1,24,2,0,0,1,6,3,5] ?_
 refine cl (arread_ok ar n at9 256 m hn (by decide) ha) rfl PkL.p trivial ?_
 intro y _
 refine zz [66,26,162,15,35,4,2,0,1,3,23,20,32,209,92,19,2] ?_
 refine TC.condD rfl (fun hc1 => absurd hc1 ((by omega))) (fun hc1 => ?_)
 refine zz [7,0,1,6,3,245,5] ?_
 refine bx (v := .agg #[_, _]) (l := [.pointer _, .int _ _]) rfl rfl ?_
 intro b1
 refine zz [24,2,11] ?_
 exact Ret.i b1 [_] ⟨rfl, trivial⟩ rfl trivial entS
theorem uget0_ok (ub ar at9 n : Nat) (m : Nat → Nat) (hn : n ≤ 131072) (ha : at9 + 256 ≤ n) (h8 : at9 % 8 = 0) (hz0 : ldW m (at9 + 0 * 8) = 0) (hz1 : ldW m (at9 + 1 * 8) = 0) : FSpec Tryz.prog 278 [.pointer (some ⟨ub, 0, none⟩)] noRd [pts ub 417 [.pointer (some ⟨ar, 0, none⟩), .int .i64 (at9 : Int)], isAr ar m n] (fun _ : Unit => .agg #[.int .u64 0, .slice none 0 0, .slice none 0 0]) (fun _ => True) (fun _ => [pts ub 417 [.pointer (some ⟨ar, 0, none⟩), .int .i64 (at9 : Int)], isAr ar m n]) := by
 refine fI Tryz.func278 Tryz.ntmps278 ?_
 intro F _
 refine zz [44,0,1,5] ?_
 refine al (l := [.int _ _, .slice _ _ _, .slice _ _ _]) rfl rfl ?_
 intro b1
 refine zz [2,0,0,1,6,34,2,10,7,0,1,6,5] ?_
 refine cl (uload_ok ub ar at9 0 n m hn ha h8 (by decide)) rfl PkL.p trivial ?_
 intro _ _
 refine zz [46] ?_
 rw [hz0]
 refine q rfl rfl (andU (a := 0) (b := 15) (c := 0) rfl rfl (by decide) (by decide) rfl) ?_
 refine zz [6,5] ?_
 refine cl (uload_ok ub ar at9 0 n m hn ha h8 (by decide)) rfl PkL.p trivial ?_
 intro _ _
 refine zz [46] ?_
 rw [hz0]
 refine q rfl rfl (shrU (a := 0) (n := 4) (c := 0) rfl rfl (by decide) rfl) ?_
 refine zz [4,4,2,0,0,1,3,107,20] ?_
 refine TL.known 21 rfl (c := false) (decide_eq_false (by decide)) ?_
 refine zz [32,84,19,2] ?_
 refine TC.condD rfl (fun hc1 => absurd hc1 ((by decide))) (fun hc1 => ?_)
 refine zz [7,0,1,6,5] ?_
 refine cl (uload_ok ub ar at9 1 n m hn ha h8 (by decide)) rfl PkL.p trivial ?_
 intro _ _
 refine zz [46] ?_
 rw [hz1]
 first | refine q rfl rfl (bld (cs := [.int _ _, .slice _ _ _, .slice _ _ _]) rfl) ?_ | refine q rfl rfl (bld (cs := [_, _, _]) rfl) ?_
 refine e rfl ?_
 refine al (l := [.int _ _, .slice _ _ _, .slice _ _ _]) rfl rfl ?_
 intro b2
 refine zz [21,48,2,0,0,1,3] ?_
 refine q rfl rfl (conv .u64 .i64 rfl rfl rfl (wN (a := 0) (by decide))) ?_
 refine zz [3,2,17] ?_
 refine TC.loop (ι := Unit) (fun q7 => True) (fun q7 => [(0, .pointer (some ⟨ub, 0, none⟩)), (2, .pointer (some ⟨b1, 0, none⟩)), (4, .int .u64 ((0 : Nat) : Int)), (5, .pointer (some ⟨b2, 0, none⟩)), (30, .int .i64 ((0 : Nat) : Int)), (31, .int .i64 0)]) (fun q7 => sepL [pts b2 347 [.int .u64 ((0 : Nat) : Int), .slice none 0 0, .slice none 0 0], pts b1 347 [.int .u64 0, .slice none 0 0, .slice none 0 0], pts ub 417 [.pointer (some ⟨ar, 0, none⟩), .int .i64 (at9 : Int)], isAr ar m n, F]) (fun q7 => 0) () trivial ⟨rfl, rfl, rfl, rfl, rfl, rfl, trivial⟩ entS ?_
 rintro _ _ ρ0
 dsimp only [updL]
 refine zz [0,1,38,2,0] ?_
 refine TC.condD rfl (fun hc2 => absurd hc2 ((by decide))) (fun hc2 => ?_)
 refine zz [50,0,0,1,3] ?_
 refine q rfl rfl (conv .u64 .i64 rfl rfl rfl (wN (a := 0) (by decide))) ?_
 refine zz [3,2,17] ?_
 refine TC.loop (ι := Unit) (fun q7 => True) (fun q7 => [(0, .pointer (some ⟨ub, 0, none⟩)), (2, .pointer (some ⟨b1, 0, none⟩)), (5, .pointer (some ⟨b2, 0, none⟩)), (45, .int .i64 ((0 : Nat) : Int)), (46, .int .i64 0)]) (fun q7 => sepL [pts b2 347 [.int .u64 ((0 : Nat) : Int), .slice none 0 0, .slice none 0 0], pts b1 347 [.int .u64 0, .slice none 0 0, .slice none 0 0], pts ub 417 [.pointer (some ⟨ar, 0, none⟩), .int .i64 (at9 : Int)], isAr ar m n, F]) (fun q7 => 0) () trivial ⟨rfl, rfl, rfl, rfl, rfl, trivial⟩ entS ?_
 rintro _ _ ρ1
 dsimp only [updL]
 refine zz [0,1,38,2,0] ?_
 refine TC.condD rfl (fun hc3 => absurd hc3 ((by decide))) (fun hc3 => ?_)
 refine zz [50,0,1,76,21,48,2,11] ?_
 exact zc11
end Go.Proofs.YtnlgmaibhlicjaaGreatDoor
