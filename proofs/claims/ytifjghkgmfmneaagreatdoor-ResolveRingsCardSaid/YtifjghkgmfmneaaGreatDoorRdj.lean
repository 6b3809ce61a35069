/- The walk of the document's 'pair': a pair, read. Conditions: the text has at most 1000000 bytes. -/
import Derived.Test.YtifjghkgmfmneaaGreatDoorRdi
import Derived.Test.YtifjghkgmfmneaaGreatDoorRdh
import Derived.Test.YtifjghkgmfmneaaGreatDoorRub
import Derived.Test.YtifjghkgmfmneaaGreatDoorRdS
namespace Go.Proofs.YtifjghkgmfmneaaGreatDoor
open Go.RowKit

theorem Whole.two {w : World} {g : Nat} {T : TypeId} {x y : Value} (h : Whole w g T #[x, y]) (a b : Value) :
    w.cell? ⟨g, 0, none⟩ = some x ∧ w.cell? ⟨g, 1, none⟩ = some y ∧ w.frozen? ⟨g, 0, none⟩ = false ∧ w.frozen? ⟨g, 1, none⟩ = false ∧
    (w.setCell ⟨g, 0, none⟩ a).cell? ⟨g, 1, none⟩ = some y ∧ (w.setCell ⟨g, 0, none⟩ a).frozen? ⟨g, 1, none⟩ = false ∧
    ((w.setCell ⟨g, 0, none⟩ a).setCell ⟨g, 1, none⟩ b).cell? ⟨g, 0, none⟩ = some a ∧ ((w.setCell ⟨g, 0, none⟩ a).setCell ⟨g, 1, none⟩ b).cell? ⟨g, 1, none⟩ = some b := by
  have h1 := h.put 0 a
  have h2 := h1.put 1 b
  exact ⟨h.cell 0, h.cell 1, h.thaw 0, h.thaw 1, h1.cell 1, h1.thaw 1, h2.cell 0, h2.cell 1⟩
def PairRet (l : List UInt8) (w : World) (e : Ending) (w' : World) : Prop :=
  ∃ (t v : List UInt8) (b : Bool), e = .returned (.tuple #[.agg #[.string ⟨t.toArray⟩, .string ⟨v.toArray⟩], .bool b]) ∧ (b = true → RdS.pairS l = some (t, v)) ∧ (b = false → RdS.pairS l = none) ∧ Below w.heap.size w w'
theorem name_at {l : List UInt8} {k : Nat} (hk : k < l.length) (hc : l[k] = 61) (hn : ∀ c ∈ l.take k, c ≠ 61) : RdS.nameOf l = l.take k ∧ l.contains 61 = true := by
  have e : l = l.take k ++ 61 :: l.drop (k + 1) := by
    conv => lhs; rw [← List.take_append_drop k l, List.drop_eq_getElem_cons hk, hc]
  refine ⟨?_, ?_⟩
  · unfold RdS.nameOf
    conv => lhs; rw [e]
    exact RdS.takeWhile_stop hn
  · rw [List.contains_iff_mem, ← hc]; exact List.getElem_mem hk
theorem type_zero (nm : List UInt8) : ((RuS.typeOf nm).1 = []) ↔ (RuS.typeOf nm).2 = 0 := by
  rcases RuS.typeM_all (RuS.lower nm) with e | e
  · have e2 : RuS.typeOf nm = ([], 0) := e
    rw [e2]; simp
  · have h1 : 1 ≤ (RuS.typeOf nm).2 := e.1
    have h2 : 1 ≤ (RuS.typeOf nm).1.length := e.2.2.1
    constructor
    · intro h; rw [h] at h2; simp at h2
    · intro h; omega

set_option maxRecDepth 100000 in
set_option maxHeartbeats 8000000 in
theorem refpair_c (l : List UInt8) (hl : l.length ≤ 1000000) (w : World) : Calls Tryz.prog 211 #[.string ⟨l.toArray⟩] w (PairRet l w) := by
  have hwh := Whole.made w 141 #[.string ⟨#[]⟩, .string ⟨#[]⟩]
  have hb0 := grow1 w (.cells #[.string ⟨#[]⟩, .string ⟨#[]⟩] 141)
  go_enter Tryz.func211, Tryz.ntmps211
  go_wp2_with fail
  generalize hw0 : (w.alloc (.cells #[.string ⟨#[]⟩, .string ⟨#[]⟩] 141)) = w0 at *
  clear hw0
  go_loop [4] (fun i => ∃ k : Nat, k ≤ l.length ∧ i = .int .i64 k ∧ Hid (∀ c ∈ l.take k, c ≠ 61)) (fun i => l.length - (intOf i).toNat)
  case atStart => exact ⟨0, Nat.zero_le _, rfl, Lib.hid (by simp)⟩
  case round =>
    obtain ⟨k, hk, rfl, HNE⟩ := hrel
    by_cases hlt : k < l.length
    · have HAT := Lib.hid (fun h => name_at hlt h HNE.out)
      have HTK := Lib.hid (List.take_succ_eq_append_getElem hlt)
      generalize hcq : l[k] = c at *
      have hq2 : ∀ h, (⟨l.toArray⟩ : ByteArray)[k]'h = c := fun _ => hcq
      clear hcq
      by_cases h61 : c = 61
      · have e61 : ((c.toNat : Int) != 61) = false := by rw [h61]; rfl
        have HNM := Lib.hid (HAT.out h61)
        have HP : Hid (RdS.pairS l = if (RuS.typeOf (l.take k)).1 = [] then none else (RdS.readS (l.drop (k + 1))).map ((RuS.typeOf (l.take k)).1, ·)) := Lib.hid (by
          unfold RdS.pairS
          rw [HNM.out.2, HNM.out.1, if_pos rfl, List.length_take, Nat.min_eq_left hk])
        have hne : ((k : Int) == (l.length : Int)) = false := beq_eq_false_iff_ne.2 (by omega)
        have x1 : (⟨l.toArray⟩ : ByteArray).extract 0 k = ⟨(l.take k).toArray⟩ := by rw [mk_extract, List.drop_zero]
        have x2 : (⟨l.toArray⟩ : ByteArray).extract (k + 1) l.length = ⟨(l.drop (k + 1)).toArray⟩ := by rw [mk_extract, List.take_length]
        have ht := fun w => reftype_c ⟨(l.take k).toArray⟩ (by show (l.take k).toArray.size ≤ _; rw [List.size_toArray, List.length_take]; omega) w
        unfold TypeRet at ht
        have dn : (⟨(l.take k).toArray⟩ : ByteArray).data.toList = l.take k := rfl
        rw [dn] at ht
        have hv := fun w => refread_c (l.drop (k + 1)) (by rw [List.length_drop]; omega) w
        unfold ValRet at hv
        have HTZ := Lib.hid (type_zero (l.take k))
        clear h61 dn HAT HTK
        generalize RuS.typeOf (l.take k) = ty at *
        obtain ⟨t, sy⟩ := ty
        simp only at ht
        generalize RdS.readS (l.drop (k + 1)) = rd at *
        go_wp2_with fail
        refine (ht _).mono ?_; rintro e w1 ⟨rfl, hb1⟩
        go_wp2_with fail
        refine (hv _).mono ?_; rintro e w2 ⟨rfl, hb2⟩
        have hwh2 := (hwh.call hb1).call hb2
        have hb3 : Below w.heap.size w w2 := hb0.trans ((below_trans hb1 hb2).mono hb0.size)
        cases rd with
        | none =>
          obtain ⟨c0, c1, f0, f1, c3, f3, k1, k2⟩ := hwh2.two (.string ⟨t.toArray⟩) (.string ⟨#[]⟩)
          have HN : Hid (RdS.pairS l = none) := Lib.hid (by rw [HP.out]; split <;> rfl)
          clear hwh2 hwh
          go_wp2_with fail
          refine bodyPost_ret (v := .tuple #[.agg #[.string ⟨t.toArray⟩, .string ⟨#[]⟩], .bool false]) (by simp [results, Tryz.results211, go_sem, k1, k2]) rfl ?_
          exact ⟨t, [], false, rfl, (fun h => by cases h), fun _ => HN.out, (hb3.setCell (p := ⟨w.heap.size, 0, none⟩) (Nat.le_refl _) _).setCell (p := ⟨w.heap.size, 1, none⟩) (Nat.le_refl _) _⟩
        | some v =>
          obtain ⟨c0, c1, f0, f1, c3, f3, k1, k2⟩ := hwh2.two (.string ⟨t.toArray⟩) (.string ⟨v.toArray⟩)
          clear hwh2 hwh
          by_cases hsy : sy = 0
          · have HN : Hid (RdS.pairS l = none) := Lib.hid (by rw [HP.out, if_pos (HTZ.out.2 hsy)])
            have e0 : (sy != 0) = false := by rw [hsy]; rfl
            clear hsy
            go_wp2_with fail
            refine bodyPost_ret (v := .tuple #[.agg #[.string ⟨t.toArray⟩, .string ⟨v.toArray⟩], .bool false]) (by simp [results, Tryz.results211, go_sem, k1, k2]) rfl ?_
            exact ⟨t, v, false, rfl, (fun h => by cases h), fun _ => HN.out, (hb3.setCell (p := ⟨w.heap.size, 0, none⟩) (Nat.le_refl _) _).setCell (p := ⟨w.heap.size, 1, none⟩) (Nat.le_refl _) _⟩
          · have HN : Hid (RdS.pairS l = some (t, v)) := Lib.hid (by rw [HP.out, if_neg (fun h => hsy (HTZ.out.1 h))]; rfl)
            have e0 : (sy != 0) = true := by simpa using hsy
            clear hsy
            go_wp2_with fail
            refine bodyPost_ret (v := .tuple #[.agg #[.string ⟨t.toArray⟩, .string ⟨v.toArray⟩], .bool true]) (by simp [results, Tryz.results211, go_sem, k1, k2]) rfl ?_
            exact ⟨t, v, true, rfl, fun _ => HN.out, (fun h => by cases h), (hb3.setCell (p := ⟨w.heap.size, 0, none⟩) (Nat.le_refl _) _).setCell (p := ⟨w.heap.size, 1, none⟩) (Nat.le_refl _) _⟩
      · have HC := Lib.hid h61
        have e61 : ((c.toNat : Int) != 61) = true := by rw [bne_iff_ne]; exact fun h => HC.out (u8_is rfl h)
        clear h61
        go_wp2_with fail
        go_round
        case rel => exact ⟨k + 1, by omega, by go_num, Lib.hid (by
          intro d hd
          rw [HTK.out] at hd
          rcases List.mem_append.1 hd with hd | hd
          · exact HNE.out d hd
          · have := List.mem_singleton.1 hd; rw [this]; exact HC.out)⟩
        case measure => simp [intOf]; omega
    · have hkl : k = l.length := by omega
      subst hkl
      have HN : Hid (RdS.pairS l = none) := Lib.hid (by
        have h := HNE.out
        rw [List.take_length] at h
        unfold RdS.pairS
        rw [if_neg]
        intro hc
        exact h 61 (List.contains_iff_mem.1 hc) rfl)
      obtain ⟨c0, c1, f0, f1, c3, f3, k1, k2⟩ := hwh.two (.string ⟨#[]⟩) (.string ⟨#[]⟩)
      clear hwh
      go_wp2_with fail
      refine bodyPost_ret (v := .tuple #[.agg #[.string ⟨#[]⟩, .string ⟨#[]⟩], .bool false]) (by simp [results, Tryz.results211, go_sem, k1, k2]) rfl ?_
      exact ⟨[], [], false, rfl, (fun h => by cases h), fun _ => HN.out, (hb0.setCell (p := ⟨w.heap.size, 0, none⟩) (Nat.le_refl _) _).setCell (p := ⟨w.heap.size, 1, none⟩) (Nat.le_refl _) _⟩
end Go.Proofs.YtifjghkgmfmneaaGreatDoor
