/- A list of pairs that comes in, opened. Conditions: those that each theorem states. -/
import Derived.Test.YtifjghkgmfmneaaGreatDoorRow
import Derived.Test.YtifjghkgmfmneaaGreatDoorAva
import Derived.Deep.Slices
import Derived.Carry
import Derived.ReadAgain
import Derived.Lib.LaidU8
namespace Go.Proofs.YtifjghkgmfmneaaGreatDoor
open Go.ChangeShapes Go.WideShapes Go.ChangeAt Go.RowKit Go.Deep
section
variable {H : Type} {enc : TypeId × Value → H}

set_option maxRecDepth 100000 in
theorem slice_of_ok {w : World} {r : Reach} {b0 : Nat} {t e : TypeId} {v : Value} (ht : Tryz.prog.underlying t = some (.slice e)) (h : Value.okWide Tryz.prog w r b0 t v) :
    v = .slice none 0 0 ∨ ∃ g o n c, v = .slice (some ⟨g, o, none⟩) n c := by
  simp only [Value.okWide, ht, Cell.okWide] at h
  cases v with
  | slice a n c =>
    cases a with
    | none =>
      match n, c, h with
      | 0, 0, _ => exact .inl rfl
      | n + 1, c, h => simp [Cell.ok, ht] at h
      | 0, c + 1, h => simp [Cell.ok, ht] at h
    | some a =>
      simp only [Cell.ok, ht] at h
      have hs := h.2.2.2.1
      obtain ⟨g, o, s⟩ := a
      simp only at hs
      subst hs
      exact .inr ⟨g, o, n, c, rfl⟩
  | _ => simp [Cell.ok, ht] at h

theorem cells?_two {w : World} {base : Nat} {a : Addr} {cs : List Value} (h : w.cells? base a 2 = some cs) : ∃ x y, cs = [x, y] ∧ w.cell? a = some x ∧ w.cell? (a.add 1) = some y := by
  unfold World.cells? at h
  split at h
  · have e0 : a.add 0 = a := by unfold Addr.add; rw [if_pos rfl]
    cases h0 : w.cell? a with
    | none => simp [List.range_succ, e0, h0] at h
    | some x =>
      cases h1 : w.cell? (a.add 1) with
      | none => simp [List.range_succ, e0, h0, h1] at h
      | some y =>
        simp [List.range_succ, e0, h0, h1] at h
        exact ⟨x, y, h.symm, rfl, rfl⟩
  · cases h

set_option maxRecDepth 100000 in
theorem open_avas_t {w : World} {base : Nat} {held : Bool} {v : Value} {d : DataW H} {ps : List MemPlace} {sp : Nat → Bool} {fuel : Nat}
    (hf' : DataW.trod enc Tryz.prog w base sp held fuel 140 [v] = some (d, ps)) :
    ∃ xs : List RdS.Pr, AvasIn w v xs ∧ xs.length ≤ 9223372036854775807 := by
  rcases open_slice Tryz.underlying140 hf' with ⟨h0, _⟩ | ⟨a, n, c, m, fu, D, Pl, hcs, hb, hlc, hcm, hm, hx, hel⟩
  · simp only [List.cons.injEq, and_true] at h0
    subst h0
    exact ⟨[], AvasIn.empty w, by simp⟩
  simp only [List.cons.injEq, and_true] at hcs
  subst hcs
  have hnm : n ≤ m := by rw [hm]; split <;> omega
  have hce : Tryz.prog.cellsOf 141 = 2 := by kernel_rfl
  have hcs : Tryz.prog.cellsOf 9 = 1 := by kernel_rfl
  obtain ⟨g, o, s⟩ := a
  rcases Nat.eq_zero_or_pos n with h0 | hpos
  · subst h0
    exact ⟨[], ⟨_, c, rfl, Nat.zero_le _, .inl rfl⟩, by simp⟩
  have hs : s = none := by
    obtain ⟨cs, h1, h2⟩ := hel 0 (by omega)
    rw [hce] at h1
    obtain ⟨x, y, rfl, c0, c1⟩ := cells?_two h1
    rw [Nat.zero_mul] at c0
    exact cell_spot c0
  subst hs
  have each : ∀ i, i < n → ∃ p : RdS.Pr, w.cell? ⟨g, o + i * 2, none⟩ = some (strV p.1) ∧ w.cell? ⟨g, o + i * 2 + 1, none⟩ = some (strV p.2) := fun i hi => by
    obtain ⟨cs, h1, h2⟩ := hel i (by omega)
    rw [hce] at h1
    obtain ⟨x, y, rfl, c0, c1⟩ := cells?_two h1
    obtain ⟨y0, y1, nn, _, _, t0, t1⟩ := trod_struct2 Tryz.underlying141 h2
    simp only [hcs, List.drop_zero, List.take_succ_cons, List.take_zero, List.drop_succ_cons] at t0 t1
    obtain ⟨s0, e0, _, _⟩ := DataW.trod_string Tryz.underlying9 t0
    obtain ⟨s1, e1, _, _⟩ := DataW.trod_string Tryz.underlying9 t1
    simp only [List.cons.injEq, and_true] at e0 e1
    subst e0; subst e1
    have ha : (⟨g, o, none⟩ : Addr).add (i * 2) = ⟨g, o + i * 2, none⟩ := by unfold Addr.add; split <;> simp_all
    have ha1 : (⟨g, o + i * 2, none⟩ : Addr).add 1 = ⟨g, o + i * 2 + 1, none⟩ := by unfold Addr.add; simp
    rw [ha] at c0 c1
    rw [ha1] at c1
    refine ⟨(s0.data.toList, s1.data.toList), ?_, ?_⟩
    · rw [c0]; unfold strV; simp
    · rw [c1]; unfold strV; simp
  obtain ⟨S, hS⟩ := choose_lt each
  refine ⟨(List.range n).map S, ?_, by simp; unfold maxLen at hcm; omega⟩
  refine ⟨some ⟨g, o, none⟩, c, by simp, by simp; omega, .inr ⟨g, o, rfl, cell_lt (hS 0 hpos).1, fun j p hj => ?_⟩⟩
  rw [List.getElem?_map] at hj
  cases hr : (List.range n)[j]? with
  | none => rw [hr] at hj; cases hj
  | some q =>
    rw [hr] at hj
    have hjn := (List.getElem?_eq_some_iff.1 hr).1
    have hq := (List.getElem?_eq_some_iff.1 hr).2
    rw [List.getElem_range] at hq
    simp only [List.length_range] at hjn
    have hj := Option.some.inj hj
    subst hq; subst hj
    exact hS j hjn
set_option maxRecDepth 100000 in
theorem open_avas {w : World} {base : Nat} {held : Bool} {r : Reach} {b0 : Nat} {v : Value} {d : DataW H} {ps : List MemPlace} {sp : Nat → Bool}
    (hval : Value.okWide Tryz.prog w r b0 140 v) (hd : DataW.Trod enc Tryz.prog w base sp held 140 v d ps) :
    ∃ xs : List RdS.Pr, AvasIn w v xs ∧ xs.length ≤ 9223372036854775807 := by
  obtain ⟨fuel, hf⟩ := hd
  rcases slice_of_ok Tryz.underlying140 hval with rfl | ⟨g, o, n, c, rfl⟩
  · exact ⟨[], AvasIn.empty w, by simp⟩
  · exact open_avas_t (by simpa [Value.cells] using hf)
end
end Go.Proofs.YtifjghkgmfmneaaGreatDoor
