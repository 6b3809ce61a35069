/- A list of lists of pairs that comes in, opened. Conditions: those that each theorem states. -/
import Derived.Test.YtadhkemdndcjlaaGreatDoorRwa
import Derived.Test.YtadhkemdndcjlaaGreatDoorAvs
namespace Go.Proofs.YtadhkemdndcjlaaGreatDoor
open Go.ChangeShapes Go.WideShapes Go.ChangeAt Go.RowKit Go.Deep
theorem addr_add (g o i : Nat) : (⟨g, o, none⟩ : Addr).add i = ⟨g, o + i, none⟩ := by unfold Addr.add; split <;> simp_all
section
variable {H : Type} {enc : TypeId × Value → H}
set_option maxRecDepth 100000 in
theorem open_avss {w : World} {base : Nat} {held : Bool} {r : Reach} {b0 : Nat} {v : Value} {d : DataW H} {ps : List MemPlace} {sp : Nat → Bool}
    (hval : Value.okWide Tryz.prog w r b0 22 v) (hd : DataW.Trod enc Tryz.prog w base sp held 22 v d ps) :
    ∃ ls : List (List RdS.Pr), AvssIn w v ls ∧ ls.length ≤ 9223372036854775807 ∧ ∀ xs ∈ ls, xs.length ≤ 9223372036854775807 := by
  obtain ⟨fuel, hf⟩ := hd
  rcases slice_of_ok Tryz.underlying22 hval with rfl | ⟨g, o, n, c, rfl⟩
  · exact ⟨[], AvssIn.empty w, by simp, by simp⟩
  have hf' : DataW.trod enc Tryz.prog w base sp held fuel 22 [.slice (some ⟨g, o, none⟩) n c] = some (d, ps) := by simpa [Value.cells] using hf
  rcases open_slice1 Tryz.underlying22 (by kernel_rfl) hf' with ⟨h0, _⟩ | ⟨a, len, cap, m, fu, V, D, Pl, hcs, hb, hlc, hcm, hm, hx, hel⟩
  · simp at h0
  simp only [List.cons.injEq, Value.slice.injEq, Option.some.injEq, and_true] at hcs
  obtain ⟨rfl, rfl, rfl⟩ := hcs
  have hnm : n ≤ m := by rw [hm]; split <;> omega
  have each : ∀ i, i < n → ∃ xs : List RdS.Pr, AvasIn w (V i) xs ∧ xs.length ≤ 9223372036854775807 := fun i hi => open_avas_t (hel i (by omega)).2
  obtain ⟨S, hS⟩ := choose_lt each
  refine ⟨(List.range n).map S, ?_, by simp; unfold maxLen at hcm; omega, fun xs hxs => ?_⟩
  · have hat : ∀ {α : Type} (F : Nat → α) (i : Nat) (x : α), ((List.range n).map F)[i]? = some x → i < n ∧ F i = x := fun F i x h => by
      rw [List.getElem?_map] at h
      cases hr : (List.range n)[i]? with
      | none => rw [hr] at h; cases h
      | some q =>
        rw [hr] at h
        have hjn := (List.getElem?_eq_some_iff.1 hr).1
        have hq := (List.getElem?_eq_some_iff.1 hr).2
        rw [List.getElem_range] at hq
        simp only [List.length_range] at hjn
        subst hq
        exact ⟨hjn, Option.some.inj h⟩
    refine ⟨some ⟨g, o, none⟩, c, (List.range n).map V, by simp, by simp; omega, by simp, fun i u l h1 h2 => ?_, ?_⟩
    · obtain ⟨hi, rfl⟩ := hat V i u h1
      obtain ⟨_, rfl⟩ := hat S i l h2
      exact (hS i hi).1
    · rcases Nat.eq_zero_or_pos n with h0 | hpos
      · left; subst h0; rfl
      · have hc : ∀ i, i < n → w.cell? ⟨g, o + i, none⟩ = some (V i) := fun i hi => by
          have h := (hel i (by omega)).1
          rwa [addr_add] at h
        refine .inr ⟨g, o, rfl, cell_lt (hc 0 hpos), fun i u h1 => ?_⟩
        obtain ⟨hi, rfl⟩ := hat V i u h1
        exact hc i hi
  · obtain ⟨i, hi, rfl⟩ := List.mem_map.1 hxs
    exact (hS i (List.mem_range.1 hi)).2
end
end Go.Proofs.YtadhkemdndcjlaaGreatDoor
