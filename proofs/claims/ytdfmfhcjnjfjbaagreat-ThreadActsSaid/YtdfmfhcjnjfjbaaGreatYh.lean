/-
  Proved here: what functions of this program compute, each as a contract over symbolic states, under the premises that each theorem names (most lines printed by a program of the prover).
-/
import Derived.OpenShut
import Derived.ProofKit
import Derived.Test.YtdfmfhcjnjfjbaaGreatYg
namespace Go.QM
open Go Go.ChangeShapes Go.WideShapes Go.RowKit
def here (W : World) : HP := fun h => ∀ i, h i = W.heap[i]?
theorem here_sat (W : World) : sat W (sep (sepL []) (here W)) :=
  ⟨fun i => W.heap[i]?, fun _ _ h => h, fun _ => none, fun i => W.heap[i]?, fun _ => .inl rfl, by funext i; rfl, rfl, fun _ => rfl⟩
theorem here_below {W w' : World} (s : Same W w') {A : HP} (h : sat w' (sep A (here W))) : Below W.heap.size W w' := by
  refine ⟨s.os, s.tape, s.output, s.size, fun k hk => ?_⟩
  obtain ⟨x, hx, a, b, d, rfl, _, hb⟩ := h
  have e : W.heap[k]? = some W.heap[k] := Array.getElem?_eq_getElem hk
  rw [e]
  refine hx k _ ?_
  rcases d k with d | d
  · simp only [hun, d, hb k]; exact e
  · rw [hb k, e] at d; cases d
theorem FSpec.lawful {P : Program} {f : FuncId} {args : List Value} {rd : HP → Prop} (h : FSpec P f args rd [] (fun _ : Unit => .bool true) (fun _ => True) (fun _ => [])) {W : World} (hrd : rd (here W)) :
    Calls P f args.toArray W fun e W' => e = .returned (.bool true) ∧ Below W.heap.size W W' :=
  callsIn_wide.1 ((h.2 (here W) hrd W (here_sat W)).mono fun _ _ ⟨_, h1, _, h3, h4⟩ => ⟨h1, here_below h3 h4⟩)
section
variable {H : Type} {enc : TypeId × Value → H} {P : Program}
theorem trodAll_stays (hl : laidOutB P = true) {W W' : World} {sp : Nat → Bool} (hb : Below W.heap.size W W') : ∀ {ts : List TypeId} {vs : List Value} {ds : List (DataW H)} {p : List MemPlace},
    (∀ t ∈ ts, P.readableRec t = true ∧ t < P.types.size) → DataW.TrodAll enc P W 0 (fun _ => true) true ts vs ds p → (∀ x ∈ p, x.block < W.heap.size) → (∀ x ∈ p, sp x.block = true) →
    DataW.TrodAll enc P W' 0 sp true ts vs ds p
  | [], vs, ds, p, _, h, _, _ => by
    obtain ⟨rfl, rfl, rfl⟩ := trodAll_nil h
    exact trodAll_mk0
  | t :: ts, vs, ds, p, hr, h, hlt, hsp => by
    obtain ⟨v, vs', d, ds', p, q, rfl, rfl, rfl, h1, h2⟩ := trodAll_cons h
    exact trodAll_cons_mk (WideElems.Trod_stays hl (hr t (by simp)).1 (hr t (by simp)).2 h1 (fun x hx => hb.same (hlt x (by simp [hx]))) (fun x hx => hsp x (by simp [hx])))
      (trodAll_stays hl hb (fun t ht => hr t (by simp [ht])) h2 (fun x hx => hlt x (by simp [hx])) (fun x hx => hsp x (by simp [hx])))
theorem law_post {f : Func} {s : ChangeSpec} {W W' : World} {args : Array Value} {ds : List (DataW H)} {before : List MemPlace} {tb : TypeId}
    (hW : DataW.Whole enc P f.params.toList s.vars false W args.toList ds [] before) (hv : s.vars = [])
    (hfn : s.fn H ds = { results := [.lit (.bool true)], args := ds })
    (hrt : f.resultTypes = #[tb]) (htb : P.underlying tb = some .bool) (hl : laidOutB P = true) (hr : ∀ t ∈ f.params.toList, P.readableRec t = true ∧ t < P.types.size)
    (hb : Below W.heap.size W W') : s.post enc P f false true false false W args (.bool true) W' := by
  have hlt := hW.lt
  have hW0 := hW
  obtain ⟨p, q, hA, hV, rfl, hz, _⟩ := hW
  rw [hv] at hV
  obtain ⟨_, rfl⟩ := trodVars_none hV
  simp only [List.append_nil] at hlt hz hW0
  have hargs : ∀ sp : Nat → Bool, (∀ x ∈ p, sp x.block = true) → DataW.TrodAll enc P W' 0 sp true f.params.toList args.toList ds p := fun sp hsp => trodAll_stays hl hb hr hA hlt hsp
  have hfn' : s.fn H (ds ++ []) = { results := [.lit (.bool true)], args := ds } := by rw [List.append_nil]; exact hfn
  have hres : ∀ (b : Nat) (sp : Nat → Bool) (hd : Bool), DataW.TrodAll enc P W' b sp hd f.resultTypes.toList ((Value.bool true).resultList f.resultTypes.size) [.lit (.bool true)] [] := fun b sp hd => by
    rw [hrt]; exact trodAll_cons_mk (shut_bool htb true) trodAll_mk0
  have hvars : ∀ sp : Nat → Bool, DataW.TrodVars enc P W' sp s.vars [] [] := fun sp => by rw [hv]; rfl
  refine ⟨ds, [], p, [], p, [], hW0, by rw [hfn']; exact hres _ _ _, by rw [hfn']; exact hargs _ (fun x hx => by simpa using hlt x hx), by rw [hfn']; exact hvars _, hb.frame _, fun _ => ?_⟩
  refine ⟨ok_one hrt rfl (okWide_bool_mk htb true), [.lit (.bool true)] ++ ds, [], ([] ++ p) ++ [], ⟨[] ++ p, [], trodAll_append (hargs (fun _ => true) (fun _ _ => rfl)) (hres _ _ _), hvars _, rfl, ?_, fun h => by cases h⟩, fun x hx _ => by simpa using hx⟩
  intro b off hm
  simp only [List.nil_append, List.append_nil] at hm
  rw [hb.frozen (p := ⟨b, off, none⟩) (hlt _ hm)]
  exact hz b off hm
theorem rdS_here {W : World} {a : Addr} {cs : List Value} (h : ∀ i v, cs[i]? = some v → W.cell? (a.add i) = some v) : ∃ E, RdS (here W) E (some a) cs := by
  by_cases h0 : cs = []
  · exact ⟨0, fun _ _ => .inl h0⟩
  · obtain ⟨v, l, rfl⟩ := List.exists_cons_of_ne_nil h0
    obtain ⟨ab, ao, as9⟩ := a
    have h1 : W.cell? ⟨ab, ao, as9⟩ = some v := by have := h 0 v rfl; simpa [Addr.add] using this
    cases as9 with
    | some s => simp only [World.cell?] at h1; split at h1 <;> simp at h1
    | none =>
    simp only [addr_add, World.cell?] at h1 h
    cases hb : W.heap[ab]? with
    | none => rw [hb] at h1; cases h1
    | some o =>
      cases o with
      | cells c t fr =>
        simp only [hb] at h1 h
        simp only [Option.isSome_none, Bool.false_eq_true, if_false] at h1 h
        refine ⟨t, fun hh e => .inr ⟨_, c.toList.take ao, c.toList.drop (ao + (v :: l).length), fr, rfl, ?_, ?_⟩⟩
        · have : ao < c.size := (Array.getElem?_eq_some_iff.1 h1).1
          simp; omega
        · rw [e, hb]
          have key : (c.toList.drop ao).take (v :: l).length = v :: l := by
            apply List.ext_getElem?
            intro i
            by_cases hi : i < (v :: l).length
            · rw [List.getElem?_take_of_lt hi, List.getElem?_drop, Array.getElem?_toList]
              rw [h i _ (List.getElem?_eq_getElem hi), List.getElem?_eq_getElem hi]
            · rw [List.getElem?_eq_none (by simp at hi ⊢; omega), List.getElem?_eq_none (by omega)]
          have : c.toList.take ao ++ (v :: l) ++ c.toList.drop (ao + (v :: l).length) = c.toList := by
            rw [← List.drop_drop, List.append_assoc]
            have k2 : v :: l ++ (c.toList.drop ao).drop (v :: l).length = c.toList.drop ao := by
              have := List.take_append_drop (v :: l).length (c.toList.drop ao)
              rw [key] at this; exact this
            rw [k2, List.take_append_drop]
          rw [this]
      | _ => rw [hb] at h1; cases h1
theorem i64_of {n : Int} (h : (Lit.int .i64 n).wf = true) : -9223372036854775808 ≤ n ∧ n ≤ 9223372036854775807 := by simpa [Lit.wf, IntKind.min, IntKind.max, IntKind.signed, IntKind.bits] using h
end
end Go.QM
