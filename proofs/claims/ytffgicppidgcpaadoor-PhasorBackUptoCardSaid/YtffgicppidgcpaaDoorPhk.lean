/- The walk of the law that what was printed is parsed as it was. Condition: a text's length is below 2^48. -/
import Derived.Test.YtffgicppidgcpaaDoorPhj
namespace Go.Proofs.YtffgicppidgcpaaDoor
open Go.RowKit

theorem tmod_le (a : Int) : (a.tmod 1000001).natAbs ≤ 1000000 := by
  have h1 := Int.tmod_lt_of_pos a (b := 1000001) (by decide)
  have h2 := Int.lt_tmod_of_pos a (b := 1000001) (by decide)
  omega

/-- where the pair stands -/
def BackAt (w wc : World) (g : Nat) (p q : Int) : Prop := Below w.heap.size w wc ∧ w.heap.size ≤ g ∧ wc.cell? ⟨g, 0, none⟩ = some (.int .i64 p) ∧ wc.cell? ⟨g, 1, none⟩ = some (.int .i64 q)
theorem BackAt.call {w wc w' : World} {g : Nat} {p q : Int} (h : BackAt w wc g p q) (hb : Below wc.heap.size wc w') : BackAt w w' g p q :=
  ⟨below_trans h.1 hb, h.2.1, below_cell hb (Nat.le_refl _) h.2.2.1, below_cell hb (Nat.le_refl _) h.2.2.2⟩

theorem text_len {a b : Int} (ha : a.natAbs ≤ 1000000) (hb : b.natAbs ≤ 1000000) : (PhS.text a b).length ≤ 100 := by
  have h1 := PhS.itoa_len (n := a) (by omega)
  have h2 := PhS.itoa_len (n := b) (by omega)
  unfold PhS.text PhS.sec
  repeat' split
  all_goals first | omega | (simp only [List.length_append, List.length_cons, List.length_nil]; omega)

set_option maxRecDepth 100000 in
theorem back_c (a b : Int) (s : ByteArray) (hs : s.size + 2 ≤ 281474976710656) (w : World) (hE : Env w) :
    Calls Tryd.prog 5 #[.int .i32 a, .int .i32 b, .string s] w (True_ w) := by
  have hp := tmod_le (wrap64 a)
  have hq := tmod_le (wrap64 b)
  have h1 := fun w hE => parse_c s hs w hE
  unfold ParseP at h1
  obtain ⟨c, d, g, hc, hd, h1', hg⟩ : ∃ c d g : Int, c.natAbs ≤ 1000000 ∧ d.natAbs ≤ 1000000 ∧
      (∀ w, Env w → Calls Tryd.prog 15 #[.string s] w fun e w' => e = .returned (.tuple #[.complex .f64 (Fl.D c) (Fl.D d), .int .i64 g]) ∧ Below w.heap.size w w') ∧
      ((g = 0 ∧ (PhS.text c d == s.toList) = true) ∨ g = 2) := by
    cases hps : PhS.parseP s.data.toList with
    | none => rw [hps] at h1; exact ⟨0, 0, 2, by decide, by decide, h1, .inr rfl⟩
    | some p =>
      obtain ⟨c, d⟩ := p
      rw [hps] at h1
      obtain ⟨k1, k2⟩ := PhS.parseP_some.1 hps
      have hr : c.natAbs ≤ 1000000 ∧ d.natAbs ≤ 1000000 := of_decide_eq_true k1
      exact ⟨c, d, 0, hr.1, hr.2, h1, .inl ⟨rfl, by rw [k2, Lib.toList_data]; simp⟩⟩
  clear h1
  have hpr2 := print_yes c d (decide_eq_true ⟨hc, hd⟩)
  unfold Printed at hpr2
  go_enter Tryd.func5, Tryd.ntmps5
  go_wp2_with fail
  refine (awake_c _ hE).mono ?_
  rintro e w1 ⟨rfl, hb1⟩
  go_wp2_with fail
  generalize (wrap64 a).tmod 1000001 = p at *
  generalize (wrap64 b).tmod 1000001 = q at *
  have hpr1 := print_yes p q (decide_eq_true ⟨hp, hq⟩)
  unfold Printed at hpr1
  have hz := fun w => z_c p q (by omega) (by omega) w
  have hback : BackAt w (w1.alloc (Obj.cells #[Value.int IntKind.i64 p, Value.int IntKind.i64 q] 29)) w1.heap.size p q :=
    ⟨below_alloc hb1 _, hb1.size, by go_simp, by go_simp⟩
  have ht : (⟨(PhS.text p q).toArray⟩ : ByteArray).size + 2 ≤ 281474976710656 := by
    have := text_len hp hq
    show (PhS.text p q).length + 2 ≤ _
    omega
  have hpa := fun w hE => parse_c ⟨(PhS.text p q).toArray⟩ ht w hE
  unfold ParseP at hpa
  simp only [PhS.parseP_text (decide_eq_true (show p.natAbs ≤ 1000000 ∧ q.natAbs ≤ 1000000 from ⟨hp, hq⟩))] at hpa
  have e1 : (FloatKind.f64.format.order (Fl.D p) (Fl.D p) == some .eq) = true := by rw [eqB_D hp hp]; simp
  have e2 : (FloatKind.f64.format.order (Fl.D q) (Fl.D q) == some .eq) = true := by rw [eqB_D hq hq]; simp
  refine (hz _).mono ?_
  rintro e w2 ⟨rfl, hb2⟩
  have hback := hback.call hb2
  go_wp2_with fail
  refine (hpr1 _ (hE.below hback.1)).mono ?_
  rintro e w3 ⟨rfl, hb3⟩
  have hback := hback.call hb3
  go_wp2_with fail
  refine (hpa _ (hE.below hback.1)).mono ?_
  rintro e w4 ⟨rfl, hb4⟩
  have hback := hback.call hb4
  go_wp2_with fail
  refine (h1' _ (hE.below hback.1)).mono ?_
  rintro e w5 ⟨rfl, hb5⟩
  have hback := hback.call hb5
  go_wp2_with fail
  refine (hpr2 _ (hE.below hback.1)).mono ?_
  rintro e w6 ⟨rfl, hb6⟩
  have hback := hback.call hb6
  obtain ⟨k0, k1, k2, k3⟩ := hback
  go_wp2_with fail
  refine (hz _).mono ?_
  rintro e w7 ⟨rfl, hb7⟩
  rcases hg with ⟨rfl, hg⟩ | rfl
  · go_wp2_with fail
    go_ret
    exact ⟨rfl, below_trans k0 hb7⟩
  · go_wp2_with fail
    go_ret
    exact ⟨rfl, below_trans k0 hb7⟩
end Go.Proofs.YtffgicppidgcpaaDoor
