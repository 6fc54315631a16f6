/-
  Proved here: what functions of this program compute, each as a contract over symbolic states, under the premises that each theorem names (most lines printed by a program of the prover).
-/
import Derived.Test.YtdfmfhcjnjfjbaaMtE
import Derived.Test.YtdfmfhcjnjfjbaaQLibG
import Derived.Test.YtdfmfhcjnjfjbaaQLibW
namespace Go.Proofs.Ytdfmfhcjnjfjbaa
open Go Go.QM
def KeysOf (f : Int → Option Value) (n : Nat) (y : List Int) : Prop := y.Nodup ∧ y.length = n ∧ ∀ x, x ∈ y ↔ (f x).isSome = true
theorem nodup_le {α : Type} {l m : List α} (h : l.Nodup) (hs : ∀ x ∈ l, x ∈ m) : l.length ≤ m.length := by
  induction l generalizing m with
  | nil => simp
  | cons a l ih =>
    obtain ⟨h1, h2⟩ := List.nodup_cons.1 h
    obtain ⟨s, t, rfl⟩ := List.append_of_mem (hs a (by simp))
    have := ih (m := s ++ t) h2 (fun x hx => by
      have h3 := hs x (by simp [hx])
      have h4 : x ≠ a := fun e => h1 (e ▸ hx)
      simp at h3 ⊢
      rcases h3 with h3 | h3 | h3
      · exact .inl h3
      · exact absurd h3 h4
      · exact .inr h3)
    simp at this ⊢; omega
/-- A map, its entries seen. -/
def mapO (b : Nat) (f : Int → Option Value) (n : Nat) : HP := EX fun y : List (Int × Value) × Array MapEntry × Nat => pure' (Fm f n y.1 ∧ y.2.1.toList.map (fun e => (e.key, e.val)) = y.1.map (fun t => (encI t.1, t.2)) ∧ BoM y.2.1 y.2.2) (sepL [obj b (.map y.2.1 y.2.2)])
theorem mapF_open (b : Nat) (f : Int → Option Value) (n : Nat) : ent (mapF encI b f n) (mapO b f n) := by
  rintro h ⟨m, hm, o, ⟨es, cl, rfl, h2, hb⟩, ho⟩
  obtain ⟨h', s, hx⟩ := (sep_emp : ent (obj b (.map es cl)) (sepL [obj b (.map es cl)])) h ho
  exact ⟨h', s, ⟨m, es, cl⟩, ⟨hm, h2, hb⟩, hx⟩
theorem mapF_shut {b : Nat} {f : Int → Option Value} {n : Nat} {m : List (Int × Value)} {es : Array MapEntry} {cl : Nat} (hm : Fm f n m) (h2 : es.toList.map (fun e => (e.key, e.val)) = m.map (fun t => (encI t.1, t.2))) (hb : BoM es cl) : ent (obj b (.map es cl)) (mapF encI b f n) :=
  ent_of_imp fun h ho => ⟨m, hm, _, ⟨es, cl, rfl, h2, hb⟩, ho⟩
theorem lk_some {m : List (Int × Value)} {x : Int} : x ∈ m.map (·.1) ↔ (lkM x m).isSome = true := by
  have := lkM_none_iff (a := x) (m := m)
  cases h : lkM x m with
  | none => rw [h] at this; simpa using this.1 rfl
  | some v =>
    rw [h] at this
    simp only [Option.isSome_some, iff_true]
    exact Decidable.not_not.1 fun h2 => by have := this.2 h2; cases this
theorem keys_done {f : Int → Option Value} {n : Nat} {m : List (Int × Value)} {es : Array MapEntry} {cl : Nat} (hm : Fm f n m) (h2 : es.toList.map (fun e => (e.key, e.val)) = m.map (fun t => (encI t.1, t.2))) (hb : BoM es cl)
    {ks : List MapEntry} (k1 : ∀ e ∈ ks, e ∈ es.toList) (k2 : (ks.map (·.born)).Nodup) (k3 : ∀ e ∈ es.toList, e.born ∈ (ks.map (·.born)).toArray) : KeysOf f n (ks.map kOf) := by
  have hp := (all_keys hb k1 k2 fun e he => by simpa using k3 e he).map kOf
  rw [(isM_int h2).2] at hp
  refine ⟨hp.nodup_iff.2 hm.nd, by rw [hp.length_eq, List.length_map, hm.n], fun x => ?_⟩
  rw [hp.mem_iff, lk_some, hm.lk]
def outK (TS TI c : Nat) (xs : List Int) : HP := EX fun x : Option Addr × Nat => pure' True (sepL [pts c TS [.slice x.1 xs.length x.2], slc TI 1 x.1 xs.length x.2 (ints xs)])

set_option maxRecDepth 4000 in
theorem keys_it (cx mb n : Nat) (f : Int → Option Value) (hn : n ≤ 1000000) : IterAll Try.prog 90 [.pointer (some ⟨cx, 0, none⟩)] (fun x : Int => [.int .i64 x]) (fun bf _ => bf.length ≤ 1000000) [pts cx 94 [.map (some mb)], mapF encI mb f n] (fun y : List Int => y) (KeysOf f n) (fun _ => [pts cx 94 [.map (some mb)], mapF encI mb f n]) := by
  refine IterAll.intro (by kernel_rfl) Try.func90 rfl Try.ntmps90 (by rfl) rfl ?_
  intro lp J hY
  change TC _ _ _ _ _ _ _ (sepL [_, _, _])
  refine TC.weak (B := sepL [J [], pts cx 94 [.map (some mb)], mapO mb f n]) (ent_take 0 rfl (ent_take 0 rfl (ent_takeW 0 rfl (mapF_open mb f n) (ent_nil _)))) ?_
  refine TC.open 2 rfl (fun x0 hx0 => ?_)
  obtain ⟨m, es, cl⟩ := x0
  obtain ⟨hm, hk, hbo⟩ := hx0
  change TC _ _ _ _ _ _ _ (sepL [_, _, _])
  dsimp only at hm hk hbo ⊢
  refine TC.seq ?_
  refine TC.region ?_
  first | refine q rfl rfl (ld rfl rfl rfl) ?_ | refine q rfl rfl (ldS rfl rfl rfl) ?_
  refine e rfl ?_
  refine rgM 3 97 rfl rfl ?_
  intro it
  change TL _ _ _ _ _ _ _ _ (sepL [_, _, _, _])
  refine TL.nil (nt ?_)
  refine TC.block ?_
  refine TC.loop (ι := List MapEntry) (fun ks => (∀ e ∈ ks, e ∈ es.toList) ∧ (ks.map (·.born)).Nodup) (fun ks => [(0, .func (.yield lp) #[] #[]), (5, .pointer (some ⟨it, 0, none⟩))]) (fun ks => sepL [J (ks.map kOf), obj it (.mapIter (some mb) cl ((ks.map (·.born)).toArray) cl), obj mb (.map es cl), pts cx 94 [.map (some mb)]]) (fun ks => es.toList.length - ks.length) [] ⟨(fun _ h => (by cases h)), List.nodup_nil⟩ ⟨rfl, rfl, trivial⟩ (by repeat (first | exact ent_nil _ | refine ent_take 0 rfl ?_ | refine ent_take 1 rfl ?_ | refine ent_take 2 rfl ?_ | refine ent_take 3 rfl ?_ | refine ent_take 4 rfl ?_ | refine ent_take 5 rfl ?_ | refine ent_take 6 rfl ?_ | refine ent_take 7 rfl ?_ | refine ent_take 8 rfl ?_ | refine ent_take 9 rfl ?_ | refine ent_take 10 rfl ?_ | refine ent_take 11 rfl ?_ | refine ent_take 12 rfl ?_)) ?_
  rintro ks ⟨hk1, hk2⟩ ρ0
  dsimp only [updL] at hk1 hk2 ⊢
  refine TC.seq ?_
  refine TC.region ?_
  refine e rfl ?_
  refine nxM 1 rfl rfl (Rd_next (Rd_here (Rd_obj _ _))) hbo (fun hall => ?_) (fun me he hnb => ?_)
  · change TL _ _ _ _ _ _ _ _ (sepL [_, _, _, _])
    have hdone := keys_done hm hk hbo hk1 hk2 hall
    refine q rfl rfl (pu (v := .bool _) (fun _ => rfl)) ?_
    refine TL.nil (nt ?_)
    refine TC.seq ?_
    refine TC.condF rfl ?_
    refine TC.exit (et (et (eb ?_)))
    exact ⟨rfl, (ks.map kOf), hdone, (ent_take 1 rfl (ent_take 2 rfl (ent_takeW 1 rfl (mapF_shut hm hk hbo) (ent_nil _))))⟩
  · change TL _ _ _ _ _ _ _ _ (sepL [_, _, _, _])
    have hkey := (isM_int hk).1 me he
    have hnb : me.born ∉ ks.map (·.born) := by simpa using hnb
    have hkn : ((ks ++ [me]).map (·.born)).Nodup := by
      rw [List.map_append, List.nodup_append]
      exact ⟨hk2, by simp, fun a ha c hc e2 => by
        simp only [List.map_cons, List.map_nil, List.mem_singleton] at hc
        rw [e2, hc] at ha; exact hnb ha⟩
    have hkm : ∀ u ∈ ks ++ [me], u ∈ es.toList := fun u hu => by
      rcases List.mem_append.1 hu with h | h
      · exact hk1 u h
      · rw [List.mem_singleton.1 h]; exact he
    have hlt := nodup_le hkn (m := es.toList.map (·.born)) (fun x hx => by
      obtain ⟨u, hu, rfl⟩ := List.mem_map.1 hx
      exact List.mem_map.2 ⟨u, hkm u hu, rfl⟩)
    simp only [List.length_map, List.length_append, List.length_cons, List.length_nil] at hlt
    have hln : es.toList.length = n := by
      have := congrArg List.length hk
      simp only [List.length_map] at this
      rw [this, hm.n]
    have hps : ((ks.map (·.born)).toArray.push me.born) = (((ks ++ [me]).map (·.born)).toArray) := by simp
    refine q rfl rfl (pu (v := .bool _) (fun _ => rfl)) ?_
    refine TL.nil (nt ?_)
    refine TC.seq ?_
    refine TC.condT rfl ?_
    refine TC.skip (nt ?_)
    refine TC.block ?_
    refine TC.seq ?_
    refine TC.region ?_
    refine q rfl rfl (enM me rfl (Rd_next (Rd_next (Rd_here (Rd_obj _ _)))) he hbo) ?_
    rw [hkey]
    refine q rfl rfl (pu (v := .int _ _) (fun _ => rfl)) ?_
    refine q rfl rfl (asg (v := .int _ _) rfl) ?_
    refine TL.nil (nt ?_)
    refine TC.seq ?_
    refine TC.region ?_
    refine q rfl rfl (mv rfl) ?_
    refine q rfl rfl (mv (v := .int _ _) rfl) ?_
    refine e rfl ?_
    refine yld 1 (hY (ks.map kOf) (kOf me) _ (by simp only [List.length_map]; omega)) rfl rfl rfl ?_
    rintro b' A' ⟨rfl, rfl⟩
    change TL _ _ _ _ _ _ _ _ (sepL [_, _, _, _])
    first | refine q rfl rfl (notD rfl) ?_ | refine q rfl rfl (notB rfl) ?_
    refine TL.nil (nt ?_)
    refine TC.condF rfl ?_
    refine TC.skip (nb (nt ?_))
    exact ⟨rfl, (ks ++ [me]), ⟨hkm, hkn⟩, (by simp only [List.length_append, List.length_singleton]; omega), ⟨rfl, rfl, trivial⟩, (ent_takeE 0 rfl (by rw [List.map_append]; rfl) (ent_takeE 0 rfl (by rw [hps]) (ent_take 0 rfl (ent_take 0 rfl (ent_nil _)))))⟩

set_option maxRecDepth 4000 in
theorem keys_ok (mb : Nat) : FSpec Try.prog 80 [.map (some mb)] noRd [] (fun cx : Nat => .func (.func 90) #[] #[.pointer (some ⟨cx, 0, none⟩)]) (fun _ => True) (fun cx => [pts cx 94 [.map (some mb)]]) := by
  refine FSpec.intro (rs := [.tmp 2]) (by kernel_rfl) Try.func80 rfl Try.ntmps80 (by rfl) rfl ?_
  intro F _
  change TC _ _ _ _ _ _ _ (sepL [_])
  refine TC.seq ?_
  refine TC.region ?_
  refine e rfl ?_
  refine bx (v := .map _) (l := [.map _]) rfl rfl ?_
  intro b1
  refine q rfl rfl (asg rfl) ?_
  refine TL.nil (nt ?_)
  refine TC.seq ?_
  refine TC.region ?_
  first | refine q rfl rfl (mkf (vf := []) (vc := [.pointer _]) rfl rfl) ?_ | refine q rfl rfl (mkf rfl rfl) ?_
  refine q rfl rfl (asg rfl) ?_
  refine TL.nil (nt ?_)
  refine TC.ret ?_
  exact Ret.i b1 [_] ⟨rfl, trivial⟩ rfl trivial (by repeat (first | exact ent_nil _ | refine ent_take 0 rfl ?_ | refine ent_take 1 rfl ?_ | refine ent_take 2 rfl ?_ | refine ent_take 3 rfl ?_ | refine ent_take 4 rfl ?_ | refine ent_take 5 rfl ?_ | refine ent_take 6 rfl ?_ | refine ent_take 7 rfl ?_ | refine ent_take 8 rfl ?_ | refine ent_take 9 rfl ?_ | refine ent_take 10 rfl ?_ | refine ent_take 11 rfl ?_ | refine ent_take 12 rfl ?_))

set_option maxRecDepth 4000 in
theorem aseq_ok (cx mb n : Nat) (f : Int → Option Value) (hn : n ≤ 1000000) : FSpec Try.prog 92 [.slice none 0 0, .func (.func 90) #[] #[.pointer (some ⟨cx, 0, none⟩)]] noRd [pts cx 94 [.map (some mb)], mapF encI mb f n] (fun y : (Option Addr × Nat) × List Int => .slice y.1.1 y.2.length y.1.2) (fun y => KeysOf f n y.2) (fun y => [slc 3 1 y.1.1 y.2.length y.1.2 (ints y.2), mapF encI mb f n]) := by
  refine FSpec.introM (rs := [.tmp 4]) (by kernel_rfl) Try.func92 rfl Try.ntmps92 (by rfl) rfl ?_
  intro F _
  change TC _ _ _ _ _ _ _ (sepL [_, _, _])
  refine TC.seq ?_
  refine TC.region ?_
  refine e rfl ?_
  refine bx (v := .slice _ _ _) (l := [.slice _ _ _]) rfl rfl ?_
  intro b2
  refine q rfl rfl (asg (v := .slice _ _ _) rfl) ?_
  refine TL.nil (nt ?_)
  refine TC.seq ?_
  refine TC.seq ?_
  refine TC.region ?_
  refine q rfl rfl (mv rfl) ?_
  refine TL.nil (nt ?_)
  refine TC.block ?_
  refine TC.weak (B := sepL [pts cx 94 [.map (some mb)], mapF encI mb f n, outK 45 3 b2 [], F]) ((slc_nil 3 1 _).trans (ent_take 2 rfl (ent_take 2 rfl (ent_close (⟨none, 0⟩ : Option Addr × Nat) trivial (by repeat (first | exact ent_nil _ | refine ent_take 0 rfl ?_ | refine ent_take 1 rfl ?_ | refine ent_take 2 rfl ?_ | refine ent_take 3 rfl ?_ | refine ent_take 4 rfl ?_ | refine ent_take 5 rfl ?_ | refine ent_take 6 rfl ?_ | refine ent_take 7 rfl ?_ | refine ent_take 8 rfl ?_ | refine ent_take 9 rfl ?_ | refine ent_take 10 rfl ?_ | refine ent_take 11 rfl ?_ | refine ent_take 12 rfl ?_)))))) ?_
  refine TC.rangeF (fun bf => [outK 45 3 b2 bf]) (keys_it cx mb n f hn) rfl (picked_cons 0 rfl (picked_cons 0 rfl (picked_nil _))) (picked_cons 0 rfl (picked_nil _)) (fun _ => rfl) rfl ?_ ?_
  · rintro lp bf x F' hok
    change TC _ _ _ _ _ _ _ (sepL [_, _])
    refine TC.region ?_
    refine q rfl rfl (asg (v := .int _ _) rfl) ?_
    refine TL.nil (nt ?_)
    refine ⟨rfl, (ent.refl _), fun F'' => ?_⟩
    change TC _ _ _ _ _ _ _ (sepL [_, _])
    refine TC.open 0 rfl (fun x0 hx0 => ?_)
    obtain ⟨ad1, cap1⟩ := x0
    clear hx0
    change TC _ _ _ _ _ _ _ (sepL [_, _, _])
    have hil := ints_length bf
    refine TC.block ?_
    refine TC.region ?_
    first | refine q rfl rfl (ld rfl rfl rfl) ?_ | refine q rfl rfl (ldS rfl rfl rfl) ?_
    refine q rfl rfl (mv (v := .int _ _) rfl) ?_
    refine e rfl ?_
    refine bs (cs := [.int _ _]) rfl ?_
    intro b3
    refine e rfl ?_
    refine ap 8 rfl rfl rfl rfl rfl (Nat.le_of_ble_eq_true rfl) (show _ = ints [x] from rfl) rfl (by omega) (by simp only [maxLen]; omega) ?_
    intro ad1 cap1
    refine e0 ?_
    refine st (v := .slice _ _ _) (vs := [_]) 1 rfl rfl rfl rfl rfl rfl (Nat.le_of_ble_eq_true rfl) rfl ?_
    refine TL.nil (nb ?_)
    refine ⟨rfl, rfl, ?_⟩
    change ent (sepL [_, _, _, _]) (sepL [_, _])
    exact (ent_close ⟨ad1, cap1⟩ trivial (ent_takeE 0 rfl (by simp [splice, Value.cells]) (ent_takeE 0 rfl (by simp [ints]) (ent_take 1 rfl (ent_nil _)))))
  · intro D y hy
    refine (nb (nt ?_))
    change TC _ _ _ _ _ _ _ (sepL [_, _, _, _, _])
    refine TC.open 2 rfl (fun x0 hx0 => ?_)
    obtain ⟨ad2, cap2⟩ := x0
    clear hx0
    change TC _ _ _ _ _ _ _ (sepL [_, _, _, _, _, _])
    refine TC.seq ?_
    refine TC.region ?_
    first | refine q rfl rfl (ld rfl rfl rfl) ?_ | refine q rfl rfl (ldS rfl rfl rfl) ?_
    refine q rfl rfl (asg (v := .slice _ _ _) rfl) ?_
    refine TL.nil (nt ?_)
    refine TC.ret ?_
    exact .inl ⟨⟨(ad2, cap2), y⟩, [_], D, rfl, rfl, ⟨rfl, trivial⟩, rfl, hy, (ent_take 4 rfl (ent_take 1 rfl (ent_take 2 rfl (ent_take 2 rfl (ent_nil _)))))⟩

set_option maxRecDepth 4000 in
theorem coll_ok (cx mb n : Nat) (f : Int → Option Value) (hn : n ≤ 1000000) : FSpec Try.prog 88 [.func (.func 90) #[] #[.pointer (some ⟨cx, 0, none⟩)]] noRd [pts cx 94 [.map (some mb)], mapF encI mb f n] (fun y : (Option Addr × Nat) × List Int => .slice y.1.1 y.2.length y.1.2) (fun y => KeysOf f n y.2) (fun y => [slc 3 1 y.1.1 y.2.length y.1.2 (ints y.2), mapF encI mb f n]) := by
  refine FSpec.intro (rs := [.tmp 2]) (by kernel_rfl) Try.func88 rfl Try.ntmps88 (by rfl) rfl ?_
  intro F _
  change TC _ _ _ _ _ _ _ (sepL [_, _, _])
  refine TC.seq ?_
  refine TC.region ?_
  refine q rfl rfl (asg (v := .slice _ _ _) rfl) ?_
  refine TL.nil (nt ?_)
  refine TC.seq ?_
  refine TC.region ?_
  refine q rfl rfl (mv rfl) ?_
  refine e rfl ?_
  refine cl (aseq_ok cx mb n f hn) rfl PkL.p trivial ?_
  intro y hy
  change TL _ _ _ _ _ _ _ _ (sepL [_, _, _])
  refine q rfl rfl (asg (v := .slice _ _ _) rfl) ?_
  refine TL.nil (nt ?_)
  refine TC.ret ?_
  exact Ret.i y [_] ⟨rfl, trivial⟩ rfl hy (by repeat (first | exact ent_nil _ | refine ent_take 0 rfl ?_ | refine ent_take 1 rfl ?_ | refine ent_take 2 rfl ?_ | refine ent_take 3 rfl ?_ | refine ent_take 4 rfl ?_ | refine ent_take 5 rfl ?_ | refine ent_take 6 rfl ?_ | refine ent_take 7 rfl ?_ | refine ent_take 8 rfl ?_ | refine ent_take 9 rfl ?_ | refine ent_take 10 rfl ?_ | refine ent_take 11 rfl ?_ | refine ent_take 12 rfl ?_))

end Go.Proofs.Ytdfmfhcjnjfjbaa
