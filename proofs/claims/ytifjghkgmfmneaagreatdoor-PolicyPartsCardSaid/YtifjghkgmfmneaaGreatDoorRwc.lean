/- Rules, and what is asked, that come in, opened. Conditions: those that each theorem states. -/
import Derived.Test.YtifjghkgmfmneaaGreatDoorRwa
import Derived.Test.YtifjghkgmfmneaaGreatDoorPos
import Derived.Lib.SmallJoins
namespace Go.Proofs.YtifjghkgmfmneaaGreatDoor
open Go.ChangeShapes Go.WideShapes Go.ChangeAt Go.RowKit Go.Deep Go.Joins
section
variable {H : Type} {enc : TypeId × Value → H}

theorem weightsAll_of {P : Program} {e : TypeId} : ∀ {l : List (DataW H)} {d : DataW H}, d ∈ l → (DataW.weightsAll P e l).all (· ≤ reachBytes) = true → (d.weights P e).all (· ≤ reachBytes) = true
  | [], _, hd, _ => by cases hd
  | d' :: r, d, hd, h => by
    rw [DataW.weightsAll, List.all_append, Bool.and_eq_true] at h
    rcases List.mem_cons.1 hd with rfl | hd
    · exact h.1
    · exact weightsAll_of hd h.2
theorem weights_at {P : Program} : ∀ {ts : List TypeId} {ds : List (DataW H)} {j : Nat} {t : TypeId} {d : DataW H}, (DataW.weightsEach P ts ds).all (· ≤ reachBytes) = true → ts[j]? = some t → ds[j]? = some d → (d.weights P t).all (· ≤ reachBytes) = true
  | [], _, _, _, _, _, ht, _ => by simp at ht
  | _ :: _, [], _, _, _, _, _, hd => by simp at hd
  | t' :: ts, d' :: ds, j, t, d, h, ht, hd => by
    rw [DataW.weightsEach, List.all_append, Bool.and_eq_true] at h
    cases j with
    | zero =>
      have := Option.some.inj ht; subst this
      have := Option.some.inj hd; subst this
      exact h.1
    | succ j => exact weights_at h.2 (by simpa using ht) (by simpa using hd)
theorem weights_slice {P : Program} {t e : TypeId} {A B : List (DataW H)} (ht : P.underlying t = some (.slice e)) (h : ((DataW.slice A B).weights P t).all (· ≤ reachBytes) = true) : (DataW.weightsAll P e A).all (· ≤ reachBytes) = true := by
  unfold DataW.weights at h
  rw [ht] at h
  simp only [List.all_cons, List.all_append, Bool.and_eq_true] at h
  exact h.2.1
theorem weights_agg {P : Program} {t : TypeId} {fs : Array Field} {A : List (DataW H)} (ht : P.underlying t = some (.struct fs)) (h : ((DataW.agg A).weights P t).all (· ≤ reachBytes) = true) : (DataW.weightsEach P (fs.toList.map (·.type)) A).all (· ≤ reachBytes) = true := by
  unfold DataW.weights at h
  rw [ht] at h
  exact h
theorem weights_str {P : Program} {t : TypeId} {s : ByteArray} (h : ((DataW.lit (.string s.data.toList) : DataW H).weights P t).all (· ≤ reachBytes) = true) : s.data.toList.length ≤ 281474976710656 := by
  unfold DataW.weights at h
  simp only [List.all_cons, List.all_nil, Bool.and_true, decide_eq_true_eq] at h
  unfold reachBytes at h
  omega
theorem str_list (s : ByteArray) : (Value.string s) = .string ⟨s.data.toList.toArray⟩ := by cases s; simp

theorem trod_struct5 {P : Program} {w : World} {base : Nat} {spare : Nat → Bool} {held : Bool} {t : TypeId} {f0 f1 f2 f3 f4 : Field} {fuel : Nat} {cs : List Value} {x : DataW H × List MemPlace} (ht : P.underlying t = some (.struct #[f0, f1, f2, f3, f4])) (h : DataW.trod enc P w base spare held fuel t cs = some x) :
    ∃ y0 y1 y2 y3 y4 n, x = (.agg [y0.1, y1.1, y2.1, y3.1, y4.1], y0.2 ++ (y1.2 ++ (y2.2 ++ (y3.2 ++ y4.2)))) ∧ cs.length = P.cellsOf t ∧ DataW.trod enc P w base spare held n f0.type ((cs.drop f0.offset).take (P.cellsOf f0.type)) = some y0 ∧
      DataW.trod enc P w base spare held n f1.type ((cs.drop f1.offset).take (P.cellsOf f1.type)) = some y1 ∧ DataW.trod enc P w base spare held n f2.type ((cs.drop f2.offset).take (P.cellsOf f2.type)) = some y2 ∧
      DataW.trod enc P w base spare held n f3.type ((cs.drop f3.offset).take (P.cellsOf f3.type)) = some y3 ∧ DataW.trod enc P w base spare held n f4.type ((cs.drop f4.offset).take (P.cellsOf f4.type)) = some y4 := by
  obtain ⟨xs, n, _, rfl, hl, hlen, hf⟩ := DataW.trod_struct ht h
  match xs, hlen with
  | [y0, y1, y2, y3, y4], _ => exact ⟨y0, y1, y2, y3, y4, n, by simp, hl, by simpa using hf 0 f0 rfl, by simpa using hf 1 f1 rfl, by simpa using hf 2 f2 rfl, by simpa using hf 3 f3 rfl, by simpa using hf 4 f4 rfl⟩
set_option maxRecDepth 100000 in
set_option maxHeartbeats 1000000 in
theorem open_rules {w : World} {base : Nat} {held : Bool} {r : Reach} {b0 : Nat} {v : Value} {d : DataW H} {ps : List MemPlace} {sp : Nat → Bool}
    (hval : Value.okWide Tryz.prog w r b0 22 v) (hd : DataW.Trod enc Tryz.prog w base sp held 22 v d ps)
    (hz : (d.weights Tryz.prog 22).all (· ≤ reachBytes) = true) :
    ∃ xs : List PoS.Rl, RulesIn w v xs ∧ xs.length ≤ 9223372036854775807 ∧ ∀ r ∈ xs, WideR r := by
  obtain ⟨fuel, hf⟩ := hd
  rcases slice_of_ok Tryz.underlying22 hval with rfl | ⟨g, o, n, c, rfl⟩
  · exact ⟨[], RulesIn.empty w, by simp, by simp⟩
  have hf' : DataW.trod enc Tryz.prog w base sp held fuel 22 [.slice (some ⟨g, o, none⟩) n c] = some (d, ps) := by simpa [Value.cells] using hf
  rcases open_slice Tryz.underlying22 hf' with ⟨h0, _⟩ | ⟨a, n', c', m, fu, D, Pl, hcs, hb, hlc, hcm, hm, hx, hel⟩
  · simp at h0
  simp only [List.cons.injEq, Value.slice.injEq, Option.some.injEq, and_true] at hcs
  obtain ⟨rfl, rfl, rfl⟩ := hcs
  have hd1 := congrArg Prod.fst hx
  simp only at hd1
  rw [hd1] at hz
  have hz2 := weights_slice Tryz.underlying22 hz
  have hnm : n ≤ m := by rw [hm]; split <;> omega
  have hce : Tryz.prog.cellsOf 30 = 5 := by kernel_rfl
  have hcs : Tryz.prog.cellsOf 9 = 1 := by kernel_rfl
  have hci : Tryz.prog.cellsOf 3 = 1 := by kernel_rfl
  have hcb : Tryz.prog.cellsOf 4 = 1 := by kernel_rfl
  have each : ∀ i, i < n → ∃ q : PoS.Rl, RuleAt w g (o + i * 5) q ∧ WideR q := fun i hi => by
    obtain ⟨cs, h1, h2⟩ := hel i (by omega)
    rw [hce] at h1
    obtain ⟨_, hlen, hc⟩ := World.cells?_some h1
    match cs, hlen, h2, hc with
    | [x0, x1, x2, x3, x4], _, h2, hc =>
      have hadd : ∀ j, ((⟨g, o, none⟩ : Addr).add (i * 5)).add j = ⟨g, o + i * 5 + j, none⟩ := fun j => by unfold Addr.add; split <;> split <;> simp_all
      have c0 := hc 0 (by omega)
      have c1 := hc 1 (by omega)
      have c2 := hc 2 (by omega)
      have c3 := hc 3 (by omega)
      have c4 := hc 4 (by omega)
      rw [hadd] at c0 c1 c2 c3 c4
      simp only [Nat.add_zero, List.getElem?_cons_zero, List.getElem?_cons_succ] at c0 c1 c2 c3 c4
      obtain ⟨y0, y1, y2, y3, y4, nn, e, _, f0, f1, f2, f3, f4⟩ := trod_struct5 Tryz.underlying30 h2
      simp only [hcs, hci, hcb, List.drop_zero, List.take_succ_cons, List.take_zero, List.drop_succ_cons] at f0 f1 f2 f3 f4
      obtain ⟨s0, e0, k0, _⟩ := DataW.trod_string Tryz.underlying9 f0
      obtain ⟨s1, e1, k1, _⟩ := DataW.trod_string Tryz.underlying9 f1
      obtain ⟨s2, e2, k2, _⟩ := DataW.trod_string Tryz.underlying9 f2
      obtain ⟨z3, e3, k3, _⟩ := DataW.trod_int Tryz.underlying3 f3
      obtain ⟨z4, e4, k4⟩ := DataW.trod_bool Tryz.underlying4 f4
      simp only [List.cons.injEq, and_true] at e0 e1 e2 e3 e4
      subst e0; subst e1; subst e2; subst e3; subst e4
      have hwd := weights_agg (H := H) Tryz.underlying30 (by
        have := weightsAll_of (d := D i) (List.mem_map.2 ⟨i, List.mem_range.2 hi, rfl⟩) hz2
        have e2 := congrArg Prod.fst e
        simp only at e2
        rw [e2] at this
        exact this)
      have w0 := weights_at (j := 0) hwd rfl rfl
      have w1 := weights_at (j := 1) hwd rfl rfl
      have w2 := weights_at (j := 2) hwd rfl rfl
      have g0 : y0.1 = .lit (.string s0.data.toList) := by first | exact k0 | exact congrArg Prod.fst k0 | simp [k0]
      have g1 : y1.1 = .lit (.string s1.data.toList) := by first | exact k1 | exact congrArg Prod.fst k1 | simp [k1]
      have g2 : y2.1 = .lit (.string s2.data.toList) := by first | exact k2 | exact congrArg Prod.fst k2 | simp [k2]
      rw [g0] at w0
      rw [g1] at w1
      rw [g2] at w2
      refine ⟨⟨s0.data.toList, s1.data.toList, s2.data.toList, z3, z4⟩, ⟨?_, ?_, ?_, c3, c4⟩, weights_str w0, weights_str w1, weights_str w2⟩
      · rw [c0]; unfold strV; rw [← str_list]
      · rw [c1]; unfold strV; rw [← str_list]
      · rw [c2]; unfold strV; rw [← str_list]
  haveI : Inhabited PoS.Rl := ⟨⟨[], [], [], 0, false⟩⟩
  obtain ⟨S, hS⟩ := choose_lt each
  refine ⟨(List.range n).map S, ⟨some ⟨g, o, none⟩, c, by simp, by simp; omega, ?_⟩, by simp; unfold maxLen at hcm; omega, fun q hq => ?_⟩
  · rcases Nat.eq_zero_or_pos n with h0 | hpos
    · left; subst h0; rfl
    · refine .inr ⟨g, o, rfl, cell_lt (hS 0 hpos).1.1, fun j q hj => ?_⟩
      rw [List.getElem?_map] at hj
      cases hr : (List.range n)[j]? with
      | none => rw [hr] at hj; cases hj
      | some x =>
        rw [hr] at hj
        have hjn := (List.getElem?_eq_some_iff.1 hr).1
        have hq := (List.getElem?_eq_some_iff.1 hr).2
        rw [List.getElem_range] at hq
        simp only [List.length_range] at hjn
        have hj := Option.some.inj hj
        subst hq; subst hj
        exact (hS j hjn).1
  · obtain ⟨i, hi, rfl⟩ := List.mem_map.1 hq
    exact (hS i (List.mem_range.1 hi)).2

set_option maxRecDepth 100000 in
theorem open_asked {w : World} {base : Nat} {held : Bool} {r : Reach} {b0 : Nat} {v : Value} {d : DataW H} {ps : List MemPlace} {sp : Nat → Bool}
    (hval : Value.okWide Tryz.prog w r b0 24 v) (hd : DataW.Trod enc Tryz.prog w base sp held 24 v d ps)
    (hz : (d.weights Tryz.prog 24).all (· ≤ reachBytes) = true) : ∃ a : Ask, v = askV a ∧ WideAsk a := by
  obtain ⟨v0, v1, v2, v3, y0, y1, y2, y3, n, rfl, rfl, rfl, t0, t1, t2, t3⟩ := open_agg4 Tryz.underlying24 (by kernel_rfl) (by kernel_rfl) hval hd
  obtain ⟨s0, e0, k0, _⟩ := DataW.trod_string Tryz.underlying9 t0
  obtain ⟨s1, e1, k1, _⟩ := DataW.trod_string Tryz.underlying9 t1
  obtain ⟨s2, e2, k2, _⟩ := DataW.trod_string Tryz.underlying9 t2
  obtain ⟨z3, e3, k3, b3⟩ := DataW.trod_int Tryz.underlying3 t3
  simp only [List.cons.injEq, and_true] at e0 e1 e2 e3
  subst e0; subst e1; subst e2; subst e3
  subst k0; subst k1; subst k2
  have hwd := weights_agg (H := H) Tryz.underlying24 hz
  have w0 := weights_at (j := 0) hwd rfl rfl
  have w1 := weights_at (j := 1) hwd rfl rfl
  have w2 := weights_at (j := 2) hwd rfl rfl
  refine ⟨⟨s0.data.toList, s1.data.toList, s2.data.toList, z3⟩, ?_, weights_str w0, weights_str w1, weights_str w2, ?_⟩
  · unfold askV
    simp only
  · simp only [Lit.wf, Bool.and_eq_true, decide_eq_true_eq] at b3
    have hm : IntKind.i64.min = -9223372036854775808 := by decide
    simpa [IntKind.has, hm] using b3
end
end Go.Proofs.YtifjghkgmfmneaaGreatDoor
