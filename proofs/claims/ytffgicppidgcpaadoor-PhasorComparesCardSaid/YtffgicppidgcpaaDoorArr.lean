/- An array of float64, opened and shut. Conditions: those that each theorem states. -/
import Derived.Test.YtffgicppidgcpaaDoorRow
import Derived.Laws.Cover2
namespace Go.Proofs.YtffgicppidgcpaaDoor
open Go.ChangeShapes Go.WideShapes Go.ChangeAt Go.RowKit
section
variable {H : Type} {enc : TypeId × Value → H} {P : Program} {w : World} {base : Nat} {spare held : Bool}

theorem float_cell {e : TypeId} {m : Nat} {v : Value} {sp : Nat → Bool} {y : DataW H × List MemPlace} (he : P.underlying e = some (.float .f64)) (h : DataW.trod enc P w base sp held m e [v] = some y) :
    ∃ x : Nat, v = .float .f64 x ∧ y = (.lit (.float .f64 x), []) ∧ (Lit.float .f64 x).wf = true := by
  cases m with
  | zero => simp [DataW.trod] at h
  | succ n =>
    cases v with
    | float k x =>
      simp only [DataW.trod, he] at h
      cases k with
      | f32 => simp at h
      | f64 =>
        by_cases hw : (Lit.float .f64 x).wf = true
        · simp [hw] at h
          exact ⟨x, rfl, h.symm, hw⟩
        · simp [hw] at h
    | _ => simp [DataW.trod, he] at h

theorem float_cell_mk {e : TypeId} {sp : Nat → Bool} {x : Nat} (m : Nat) (he : P.underlying e = some (.float .f64)) (hw : (Lit.float .f64 x).wf = true) :
    DataW.trod enc P w base sp held (m + 1) e [.float .f64 x] = some (.lit (.float .f64 x), []) := by
  simp [DataW.trod, he, hw]

theorem open_floats4 {r : Reach} {b0 : Nat} {t e : TypeId} {v : Value} {d : DataW H} {ps : List MemPlace} {sp : Nat → Bool} (ht : P.underlying t = some (.array 4 e)) (he : P.underlying e = some (.float .f64)) (hce : P.cellsOf e = 1) (hct : P.cellsOf t = 4)
    (hval : Value.okWide P w r b0 t v) (hd : DataW.Trod enc P w base sp held t v d ps) :
    ∃ x0 x1 x2 x3 : Nat, v = .agg #[.float .f64 x0, .float .f64 x1, .float .f64 x2, .float .f64 x3] ∧ d = .agg [.lit (.float .f64 x0), .lit (.float .f64 x1), .lit (.float .f64 x2), .lit (.float .f64 x3)] ∧ ps = [] ∧
      (Lit.float .f64 x0).wf = true ∧ (Lit.float .f64 x1).wf = true ∧ (Lit.float .f64 x2).wf = true ∧ (Lit.float .f64 x3).wf = true := by
  simp only [Value.okWide, ht] at hval
  obtain ⟨cs, rfl, hsz, _⟩ := hval
  obtain ⟨fuel, hf⟩ := hd
  obtain ⟨xs, m, rfl, hx, hl, hlen, hel⟩ := DataW.trod_array ht hf
  have hl4 : cs.toList.length = 4 := by simpa [Value.cells, hct] using hl
  obtain ⟨l⟩ := cs
  match l, hl4 with
  | [c0, c1, c2, c3], _ =>
    match xs, hlen with
    | [y0, y1, y2, y3], _ =>
      have e0 := hel 0 (by decide)
      have e1 := hel 1 (by decide)
      have e2 := hel 2 (by decide)
      have e3 := hel 3 (by decide)
      simp [Value.cells, hce] at e0 e1 e2 e3
      obtain ⟨x0, rfl, rfl, w0⟩ := float_cell he e0
      obtain ⟨x1, rfl, rfl, w1⟩ := float_cell he e1
      obtain ⟨x2, rfl, rfl, w2⟩ := float_cell he e2
      obtain ⟨x3, rfl, rfl, w3⟩ := float_cell he e3
      simp only [Prod.mk.injEq] at hx
      exact ⟨x0, x1, x2, x3, rfl, by simpa using hx.1, by simpa using hx.2, w0, w1, w2, w3⟩

theorem shut_floats4 {t e : TypeId} {sp : Nat → Bool} {x0 x1 x2 x3 : Nat} (ht : P.underlying t = some (.array 4 e)) (he : P.underlying e = some (.float .f64)) (hce : P.cellsOf e = 1) (hct : P.cellsOf t = 4)
    (w0 : (Lit.float .f64 x0).wf = true) (w1 : (Lit.float .f64 x1).wf = true) (w2 : (Lit.float .f64 x2).wf = true) (w3 : (Lit.float .f64 x3).wf = true) :
    DataW.Trod enc P w base sp held t (.agg #[.float .f64 x0, .float .f64 x1, .float .f64 x2, .float .f64 x3]) (.agg [.lit (.float .f64 x0), .lit (.float .f64 x1), .lit (.float .f64 x2), .lit (.float .f64 x3)]) [] := by
  refine ⟨2, ?_⟩
  simp only [DataW.trod, Value.cells, ht, hct, hce]
  simp [List.range_succ, he, w0, w1, w2, w3]

theorem open_floats6 {r : Reach} {b0 : Nat} {t e : TypeId} {v : Value} {d : DataW H} {ps : List MemPlace} {sp : Nat → Bool} (ht : P.underlying t = some (.array 6 e)) (he : P.underlying e = some (.float .f64)) (hce : P.cellsOf e = 1) (hct : P.cellsOf t = 6)
    (hval : Value.okWide P w r b0 t v) (hd : DataW.Trod enc P w base sp held t v d ps) :
    ∃ x0 x1 x2 x3 x4 x5 : Nat, v = .agg #[.float .f64 x0, .float .f64 x1, .float .f64 x2, .float .f64 x3, .float .f64 x4, .float .f64 x5] ∧ d = .agg [.lit (.float .f64 x0), .lit (.float .f64 x1), .lit (.float .f64 x2), .lit (.float .f64 x3), .lit (.float .f64 x4), .lit (.float .f64 x5)] ∧ ps = [] ∧
      (Lit.float .f64 x0).wf = true ∧ (Lit.float .f64 x1).wf = true ∧ (Lit.float .f64 x2).wf = true ∧ (Lit.float .f64 x3).wf = true ∧ (Lit.float .f64 x4).wf = true ∧ (Lit.float .f64 x5).wf = true := by
  simp only [Value.okWide, ht] at hval
  obtain ⟨cs, rfl, hsz, _⟩ := hval
  obtain ⟨fuel, hf⟩ := hd
  obtain ⟨xs, m, rfl, hx, hl, hlen, hel⟩ := DataW.trod_array ht hf
  have hl6 : cs.toList.length = 6 := by simpa [Value.cells, hct] using hl
  obtain ⟨l⟩ := cs
  match l, hl6 with
  | [c0, c1, c2, c3, c4, c5], _ =>
    match xs, hlen with
    | [y0, y1, y2, y3, y4, y5], _ =>
      have e0 := hel 0 (by decide)
      have e1 := hel 1 (by decide)
      have e2 := hel 2 (by decide)
      have e3 := hel 3 (by decide)
      have e4 := hel 4 (by decide)
      have e5 := hel 5 (by decide)
      simp [Value.cells, hce] at e0 e1 e2 e3 e4 e5
      obtain ⟨x0, rfl, rfl, w0⟩ := float_cell he e0
      obtain ⟨x1, rfl, rfl, w1⟩ := float_cell he e1
      obtain ⟨x2, rfl, rfl, w2⟩ := float_cell he e2
      obtain ⟨x3, rfl, rfl, w3⟩ := float_cell he e3
      obtain ⟨x4, rfl, rfl, w4⟩ := float_cell he e4
      obtain ⟨x5, rfl, rfl, w5⟩ := float_cell he e5
      simp only [Prod.mk.injEq] at hx
      exact ⟨x0, x1, x2, x3, x4, x5, rfl, by simpa using hx.1, by simpa using hx.2, w0, w1, w2, w3, w4, w5⟩

theorem shut_floats6 {t e : TypeId} {sp : Nat → Bool} {x0 x1 x2 x3 x4 x5 : Nat} (ht : P.underlying t = some (.array 6 e)) (he : P.underlying e = some (.float .f64)) (hce : P.cellsOf e = 1) (hct : P.cellsOf t = 6)
    (w0 : (Lit.float .f64 x0).wf = true) (w1 : (Lit.float .f64 x1).wf = true) (w2 : (Lit.float .f64 x2).wf = true) (w3 : (Lit.float .f64 x3).wf = true) (w4 : (Lit.float .f64 x4).wf = true) (w5 : (Lit.float .f64 x5).wf = true) :
    DataW.Trod enc P w base sp held t (.agg #[.float .f64 x0, .float .f64 x1, .float .f64 x2, .float .f64 x3, .float .f64 x4, .float .f64 x5]) (.agg [.lit (.float .f64 x0), .lit (.float .f64 x1), .lit (.float .f64 x2), .lit (.float .f64 x3), .lit (.float .f64 x4), .lit (.float .f64 x5)]) [] := by
  refine ⟨2, ?_⟩
  simp only [DataW.trod, Value.cells, ht, hct, hce]
  simp [List.range_succ, he, w0, w1, w2, w3, w4, w5]
end
end Go.Proofs.YtffgicppidgcpaaDoor
