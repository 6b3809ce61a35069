/- The walk of the program's 'Type'. No condition but that a text's length is a machine's. -/
import Derived.Test.YtjjbkldlgjllnaaGreatDoorRub
import Derived.Test.YtjjbkldlgjllnaaGreatDoorStr
namespace Go.Proofs.YtjjbkldlgjllnaaGreatDoor
open Go.RowKit


def rowVals (L : List (List UInt8)) : Array Value := (L.map strV).toArray
/-- the program's table of types in memory -/
def TypeTab (w : World) (g : Nat) (wr : World) : Prop :=
  Below w.heap.size w wr ∧ (∀ k, 1 ≤ k → k < 6 → Whole wr (g + (k - 1)) 9 (rowVals (RuS.tabRow k))) ∧
  Whole wr (g + 5) 54 #[.slice none 0 0, .slice (some ⟨g, 0, none⟩) 8 8, .slice (some ⟨g + 1, 0, none⟩) 2 2, .slice (some ⟨g + 2, 0, none⟩) 1 1, .slice (some ⟨g + 3, 0, none⟩) 1 1, .slice (some ⟨g + 4, 0, none⟩) 2 2]
theorem TypeTab.call {w : World} {g : Nat} {wr w' : World} (h : TypeTab w g wr) (hb : Below wr.heap.size wr w') : TypeTab w g w' :=
  ⟨h.1.trans (hb.mono h.1.size), fun k h1 h2 => (h.2.1 k h1 h2).call hb, h.2.2.call hb⟩

theorem TypeTab.made (w : World) : TypeTab w w.heap.size ((((((w.alloc (Obj.cells (rowVals (RuS.tabRow 1)) 9)).alloc (Obj.cells (rowVals (RuS.tabRow 2)) 9)).alloc (Obj.cells (rowVals (RuS.tabRow 3)) 9)).alloc
    (Obj.cells (rowVals (RuS.tabRow 4)) 9)).alloc (Obj.cells (rowVals (RuS.tabRow 5)) 9)).alloc
    (Obj.cells #[.slice none 0 0, .slice (some ⟨w.heap.size, 0, none⟩) 8 8, .slice (some ⟨w.heap.size + 1, 0, none⟩) 2 2, .slice (some ⟨w.heap.size + 1 + 1, 0, none⟩) 1 1, .slice (some ⟨w.heap.size + 1 + 1 + 1, 0, none⟩) 1 1, .slice (some ⟨w.heap.size + 1 + 1 + 1 + 1, 0, none⟩) 2 2] 54)) := by
  have m1 := Whole.made w 9 (rowVals (RuS.tabRow 1))
  have m2 := Whole.made (w.alloc (Obj.cells (rowVals (RuS.tabRow 1)) 9)) 9 (rowVals (RuS.tabRow 2))
  have m3 := Whole.made ((w.alloc (Obj.cells (rowVals (RuS.tabRow 1)) 9)).alloc (Obj.cells (rowVals (RuS.tabRow 2)) 9)) 9 (rowVals (RuS.tabRow 3))
  have m4 := Whole.made (((w.alloc (Obj.cells (rowVals (RuS.tabRow 1)) 9)).alloc (Obj.cells (rowVals (RuS.tabRow 2)) 9)).alloc (Obj.cells (rowVals (RuS.tabRow 3)) 9)) 9 (rowVals (RuS.tabRow 4))
  have m5 := Whole.made ((((w.alloc (Obj.cells (rowVals (RuS.tabRow 1)) 9)).alloc (Obj.cells (rowVals (RuS.tabRow 2)) 9)).alloc (Obj.cells (rowVals (RuS.tabRow 3)) 9)).alloc (Obj.cells (rowVals (RuS.tabRow 4)) 9)) 9 (rowVals (RuS.tabRow 5))
  have m6 := Whole.made (((((w.alloc (Obj.cells (rowVals (RuS.tabRow 1)) 9)).alloc (Obj.cells (rowVals (RuS.tabRow 2)) 9)).alloc (Obj.cells (rowVals (RuS.tabRow 3)) 9)).alloc (Obj.cells (rowVals (RuS.tabRow 4)) 9)).alloc (Obj.cells (rowVals (RuS.tabRow 5)) 9)) 54
    #[.slice none 0 0, .slice (some ⟨w.heap.size, 0, none⟩) 8 8, .slice (some ⟨w.heap.size + 1, 0, none⟩) 2 2, .slice (some ⟨w.heap.size + 1 + 1, 0, none⟩) 1 1, .slice (some ⟨w.heap.size + 1 + 1 + 1, 0, none⟩) 1 1, .slice (some ⟨w.heap.size + 1 + 1 + 1 + 1, 0, none⟩) 2 2]
  simp only [World.size_alloc] at m2 m3 m4 m5 m6
  refine ⟨below_alloc (below_alloc (below_alloc (below_alloc (below_alloc (below_alloc (Below.refl _ _) _) _) _) _) _) _, fun k h1 h2 => ?_, m6⟩
  have hk : k = 1 ∨ k = 2 ∨ k = 3 ∨ k = 4 ∨ k = 5 := by omega
  rcases hk with rfl | rfl | rfl | rfl | rfl
  · exact ((((m1.alloc _).alloc _).alloc _).alloc _).alloc _
  · exact (((m2.alloc _).alloc _).alloc _).alloc _
  · exact ((m3.alloc _).alloc _).alloc _
  · exact (m4.alloc _).alloc _
  · exact m5.alloc _
theorem TypeTab.nought {w : World} {g : Nat} {wr : World} (h : TypeTab w g wr) : wr.cell? ⟨g + 5, 0, none⟩ = some (.slice none 0 0) := h.2.2.cell 0
theorem TypeTab.hdr {w : World} {g : Nat} {wr : World} (h : TypeTab w g wr) {k : Nat} (h1 : 1 ≤ k) (h2 : k < 6) :
    wr.cell? ⟨g + 5, k, none⟩ = some (.slice (some ⟨g + (k - 1), 0, none⟩) (RuS.tabRow k).length (RuS.tabRow k).length) := by
  have hk : k = 1 ∨ k = 2 ∨ k = 3 ∨ k = 4 ∨ k = 5 := by omega
  rcases hk with rfl | rfl | rfl | rfl | rfl
  · exact h.2.2.cell 1
  · exact h.2.2.cell 2
  · exact h.2.2.cell 3
  · exact h.2.2.cell 4
  · exact h.2.2.cell 5
theorem TypeTab.at {w : World} {g : Nat} {wr : World} (h : TypeTab w g wr) {k j : Nat} (h1 : 1 ≤ k) (h2 : k < 6) (hj : j < (RuS.tabRow k).length) :
    wr.cell? ⟨g + (k - 1), j, none⟩ = some (.string ⟨((RuS.tabRow k)[j]).toArray⟩) := by
  rw [(h.2.1 k h1 h2).cell j]
  simp [rowVals, strV, hj]

/-- no type of the first rows is the name -/
def NoneYet (m : List UInt8) (k : Nat) : Prop := ∀ i, i < k → ∀ t ∈ RuS.tabRow i, ¬ RuS.lower t = m
def NoneIn (m : List UInt8) (k j : Nat) : Prop := ∀ t ∈ (RuS.tabRow k).take j, ¬ RuS.lower t = m
theorem NoneYet.succ {m : List UInt8} {k : Nat} (h : NoneYet m k) (h2 : NoneIn m k (RuS.tabRow k).length) : NoneYet m (k + 1) := by
  intro i hi t ht
  by_cases he : i = k
  · subst he; rw [NoneIn, List.take_length] at h2; exact h2 t ht
  · exact h i (by omega) t ht
theorem NoneIn.succ {m : List UInt8} {k j : Nat} (h : NoneIn m k j) (hj : j < (RuS.tabRow k).length) (hn : ¬ RuS.lower (RuS.tabRow k)[j] = m) : NoneIn m k (j + 1) := by
  intro t ht
  rw [List.take_succ_eq_append_getElem hj, List.mem_append] at ht
  rcases ht with ht | ht
  · exact h t ht
  · rw [List.mem_singleton] at ht; subst ht; exact hn
theorem NoneIn.zero (m : List UInt8) (k : Nat) : NoneIn m k 0 := by intro t ht; simp at ht
theorem row_small : ∀ k : Fin 6, (RuS.tabRow k.val).length ≤ 8 ∧ ∀ t ∈ RuS.tabRow k.val, t.length ≤ 17 := by decide +kernel

def OuterT (w : World) (g : Nat) (m : List UInt8) (v : Value) (wr : World) : Prop := ∃ k : Nat, k ≤ 6 ∧ v = .int .i64 k ∧ NoneYet m k ∧ TypeTab w g wr
def InnerT (w : World) (g : Nat) (m : List UInt8) (k : Nat) (v : Value) (wr : World) : Prop := ∃ j : Nat, j ≤ (RuS.tabRow k).length ∧ v = .int .i64 j ∧ NoneIn m k j ∧ TypeTab w g wr

set_option maxRecDepth 100000 in
theorem type_c (s : ByteArray) (hs : s.size ≤ 9223372036854775807) (w : World) : Calls Tryz.prog 68 #[.string s] w (TypeRet s.data.toList w) := by
  generalize hm : RuS.lower s.data.toList = m
  have HM := Lib.hid hm
  have hl := fun w => lower_c s hs w
  unfold LowRet at hl
  rw [hm] at hl
  clear hm
  go_enter Tryz.func68, Tryz.ntmps68
  go_wp2_with fail
  go_loopw [15] (fun v wr => OuterT w w.heap.size m v wr) (fun v _ => 6 - (intOf v).toNat)
  case atStart => exact ⟨0, by omega, rfl, fun i hi => absurd hi (Nat.not_lt_zero _), TypeTab.made w⟩
  case round =>
    obtain ⟨k, hk, rfl, hn, ht⟩ := hrel
    by_cases hlt : k < 6
    · by_cases h0 : k = 0
      · subst h0
        have hc := ht.nought
        go_wp2_with fail
        refine wp_loop_rounds 1 ?_
        rw [rounds_succ]
        go_wp2_with fail
        go_roundw
        case rel => exact ⟨1, by omega, rfl, hn.succ (by intro t ht; cases ht), ht⟩
        case measure => simp [intOf]
      · have hk1 : 1 ≤ k := by omega
        have hc := ht.hdr hk1 hlt
        have hsm := (row_small ⟨k, hlt⟩).1
        simp only at hsm
        generalize hnn : (RuS.tabRow k).length = n at *
        have HN := Lib.hid hnn
        clear hnn
        have hkd : decide ((k : Int) < 6) = true := decide_eq_true (by omega)
        go_wp2_with fail
        obtain ⟨wo, rfl⟩ : ∃ wo : World, wo = wr := ⟨_, rfl⟩
        go_loopw [22] (fun v wr => InnerT w w.heap.size m k v wr) (fun v _ => n - (intOf v).toNat)
        case atStart => exact ⟨0, by omega, rfl, NoneIn.zero _ _, ht⟩
        case round =>
          obtain ⟨j, hj, rfl, hni, ht2⟩ := hrel
          by_cases hj2 : j < n
          · have hj3 : j < (RuS.tabRow k).length := by rw [HN.out]; exact hj2
            have hcj := ht2.at hk1 hlt hj3
            have hin := List.getElem_mem hj3
            have hst := (row_small ⟨k, hlt⟩).2 _ hin
            have HSUC := Lib.hid (fun h => hni.succ hj3 h)
            have HIT := Lib.hid (fun h => RuS.typeM_hit (m := m) hlt hin h)
            clear hin
            generalize (RuS.tabRow k)[j] = t at *
            have hlt2 := fun w => lower_c ⟨t.toArray⟩ (by show t.length ≤ _; omega) w
            unfold LowRet at hlt2
            clear hc hj3
            cases hq : (RuS.lower t == m) with
            | true =>
              have HR := Lib.hid (typeOf_m HM.out (HIT.out (beq_iff_eq.1 hq)))
              go_wp2_with fail
              refine (hlt2 _).mono ?_; rintro e w1 ⟨rfl, hb1⟩
              go_wp2_with fail
              refine (hl _).mono ?_; rintro e w2 ⟨rfl, hb2⟩
              go_wp2_with fail
              go_ret2
              exact TypeRet.mk' HR.out ((ht2.call hb1).call hb2).1
            | false =>
              have HQ := Lib.hid (beq_eq_false_iff_ne.1 hq)
              go_wp2_with fail
              refine (hlt2 _).mono ?_; rintro e w1 ⟨rfl, hb1⟩
              go_wp2_with fail
              refine (hl _).mono ?_; rintro e w2 ⟨rfl, hb2⟩
              go_wp2_with fail
              go_roundw
              case rel => exact ⟨j + 1, by rw [HN.out]; omega, by go_num, HSUC.out HQ.out, (ht2.call hb1).call hb2⟩
              case measure => simp [intOf]; omega
          · have hjn : j = n := by rw [HN.out] at hj; omega
            subst hjn
            go_wp2_with fail
            go_roundw
            case rel => exact ⟨k + 1, by omega, by go_num, hn.succ (by rw [HN.out]; exact hni), ht2⟩
            case measure => simp [intOf]; omega
    · have hk6 : k = 6 := by omega
      subst hk6
      have HR := Lib.hid (typeOf_m HM.out (RuS.typeM_none hn))
      go_wp2_with fail
      go_ret2
      exact TypeRet.mk' HR.out ht.1
end Go.Proofs.YtjjbkldlgjllnaaGreatDoor
