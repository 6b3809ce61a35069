/- The walks of 'rest', 'below' and of Under, the program's and the document's. Conditions: at most 1000000 texts, bytes; the library's variables are laid. The walks of Compare of two names, the program's and the document's, and of the values of names. Conditions: the texts have at most 1000000 bytes; the library's variables are laid. The walks of a value's normal form, the program's and the document's. Conditions: the texts have at most 1000000 bytes; the library's variables are laid. The walks of Join, and of the document's 'fit'. Conditions: the texts have at most 1000000 bytes; the library's variables are laid. -/
import Derived.BigQuiet
import Derived.Test.YtjmfknfponjgkaaGreatDoorQDnd
import Derived.Test.YtjmfknfponjgkaaGreatDoorQAva
import Derived.Test.YtjmfknfponjgkaaGreatDoorQRue
import Derived.Test.YtjmfknfponjgkaaGreatDoorQRug
import Derived.Test.YtjmfknfponjgkaaGreatDoorQPhc
namespace Go.Proofs.YtjmfknfponjgkaaGreatDoor
open Go.RowKit

theorem equal_c (v1 v2 : Value) (xs ys : List (List UInt8)) (w : World) (h1 : StrsIn w v1 xs) (h2 : StrsIn w v2 ys) (hl : xs.length ≤ 1000000) (hl2 : ys.length ≤ 1000000) : Calls Tryz.prog 33 #[v1, v2] w (NmBool (decide (xs = ys)) w) := by
  obtain ⟨a1, c1, rfl, hc1, hcase1⟩ := h1
  obtain ⟨a2, c2, rfl, hc2, hcase2⟩ := h2
  by_cases hlen : xs.length = ys.length
  · by_cases h0 : xs = []
    · subst h0
      have hy : ys = [] := List.eq_nil_of_length_eq_zero hlen.symm
      subst hy
      refine (Tryz.slices_Equal_string_empty a1 a2 c1 0 c2 w (by omega)).mono ?_
      rintro e w' ⟨rfl, rfl⟩
      exact ⟨rfl, Below.refl _ _⟩
    · have h0' : ys ≠ [] := fun h => h0 (List.eq_nil_of_length_eq_zero (by rw [hlen, h]; rfl))
      rcases hcase1 with hcase1 | ⟨g1, o1, rfl, hg1, hcell1⟩
      · exact absurd hcase1 h0
      rcases hcase2 with hcase2 | ⟨g2, o2, rfl, hg2, hcell2⟩
      · exact absurd hcase2 h0'
      have hm : ∀ (zs : List (List UInt8)) (g o : Nat), (∀ (j : Nat) (y : List UInt8), zs[j]? = some y → w.cell? ⟨g, o + j, none⟩ = some (strV y)) → ∀ j, j < (zs.map (fun t : List UInt8 => (⟨t.toArray⟩ : ByteArray))).length → w.cell? ⟨g, o + j, none⟩ = some (.string ((zs.map (fun t : List UInt8 => (⟨t.toArray⟩ : ByteArray))).getD j ByteArray.empty)) := fun zs g o hz j hj => by
        have hj2 : j < zs.length := by simpa using hj
        rw [hz j zs[j] (List.getElem?_eq_getElem hj2), List.getD_eq_getElem?_getD, List.getElem?_map, List.getElem?_eq_getElem hj2]
        rfl
      refine (Tryz.slices_Equal_string g1 o1 xs.length c1 g2 o2 ys.length c2 _ _ w (by rw [List.length_map]; omega) (by rw [List.length_map]; omega) (by omega) (by omega) (hm xs g1 o1 hcell1) (hm ys g2 o2 hcell2)).mono ?_
      rintro e w' ⟨rfl, q, rfl⟩
      refine ⟨?_, below_drewN w q⟩
      have hinj : ((xs.map (fun t : List UInt8 => (⟨t.toArray⟩ : ByteArray))).take xs.length = (ys.map (fun t : List UInt8 => (⟨t.toArray⟩ : ByteArray))).take ys.length) ↔ xs = ys := by
        rw [List.take_of_length_le (by rw [List.length_map]; exact Nat.le_refl _), List.take_of_length_le (by rw [List.length_map]; exact Nat.le_refl _)]
        constructor
        · intro h
          have h2 := congrArg (List.map (fun b : ByteArray => b.data.toList)) h
          rw [List.map_map, List.map_map] at h2
          have e : ((fun b : ByteArray => b.data.toList) ∘ fun t : List UInt8 => (⟨t.toArray⟩ : ByteArray)) = id := by funext t; simp
          rw [e, List.map_id, List.map_id] at h2
          exact h2
        · intro h; rw [h]
      simp only [hinj]
  · refine (Tryz.slices_Equal_string_lens a1 a2 xs.length c1 ys.length c2 w hlen).mono ?_
    rintro e w' ⟨rfl, rfl⟩
    exact ⟨by rw [decide_eq_false (fun h => hlen (by rw [h]))], Below.refl _ _⟩

theorem Own.plain {w : World} {B : Nat} {v : Value} {xs : List (List UInt8)} (h : Own w B v xs) : (v = .slice none 0 0 ∧ xs = []) ∨ ∃ g c, v = .slice (some ⟨g, 0, none⟩) xs.length c ∧ xs.length ≤ c := by
  rcases h.2 with ⟨rfl, hn⟩ | ⟨g, cap, cur, rfl, _, _, hn, _⟩
  · exact .inl ⟨rfl, List.eq_nil_of_length_eq_zero hn⟩
  · exact .inr ⟨g, cap, rfl, hn⟩
end Go.Proofs.YtjmfknfponjgkaaGreatDoor
namespace Go.Proofs.YtjmfknfponjgkaaGreatDoor
open Go.RowKit

theorem value_other {nm v : List UInt8} {t : List UInt8} {sy : Int} (h : RuS.typeOf nm = (t, sy)) (h5 : sy ≠ 5) : DnS.valueS nm v = RuS.normal nm v := by
  unfold DnS.valueS; rw [h, if_neg h5]
theorem value_name {nm v : List UInt8} {t : List UInt8} (h : RuS.typeOf nm = (t, 5)) : DnS.valueS nm v = if (DnS.normN v).2 ≠ 0 ∨ (DnS.normN v).1 = [] ∨ 200 < v.length then ([], 2) else ((DnS.normN v).1, 0) := by
  rw [DnS.valueS_alt, h, if_pos rfl]
theorem NmTxt.mk' {r q : List UInt8 × Int} {w w' : World} (h : r = q) (hb : Below w.heap.size w w') : NmTxt r w (.returned (.tuple #[.string ⟨q.1.toArray⟩, .int .i64 q.2])) w' := by subst h; exact ⟨rfl, hb⟩

set_option maxRecDepth 100000 in
theorem dnvalue_c (nm v : List UInt8) (hn : nm.length ≤ 1048576) (hv : v.length ≤ 1000000) (w : World) (hE : Env w) : Calls Tryz.prog 53 #[.string ⟨nm.toArray⟩, .string ⟨v.toArray⟩] w (NmTxt (DnS.valueS nm v) w) := by
  have f1 : (⟨nm.toArray⟩ : ByteArray).size ≤ 9223372036854775807 := by show nm.toArray.size ≤ _; rw [List.size_toArray]; omega
  have f2 : (⟨v.toArray⟩ : ByteArray).size ≤ 9223372036854775807 := by show v.toArray.size ≤ _; rw [List.size_toArray]; omega
  have hty := type_c ⟨nm.toArray⟩ f1 w
  have hnm := fun w hE => rulenormal_c ⟨nm.toArray⟩ ⟨v.toArray⟩ f1 f2 w hE
  have hnn := fun w hE => dnnormal_c v hv w hE
  unfold TypeRet at hty
  unfold NormRet at hnm
  unfold NmTxt at hnn
  simp only at hty hnm
  obtain ⟨T, hT⟩ : ∃ T, RuS.typeOf nm = T := ⟨_, rfl⟩
  rw [hT] at hty
  obtain ⟨t, sy⟩ := T
  have HT := Lib.hid hT
  simp only at hty
  clear hT f1 f2
  by_cases h5 : sy = 5
  · subst h5
    have HV := Lib.hid (value_name (v := v) HT.out)
    clear hnm
    generalize DnS.normN v = N at *
    obtain ⟨n, e0⟩ := N
    simp only at hnn HV
    by_cases he : e0 = 0
    · subst he
      by_cases hn0 : n = []
      · have HR := Lib.hid (HV.out.trans (if_pos (.inr (.inl hn0))))
        have hne : n.isEmpty = true := by rw [hn0]; rfl
        clear HV
        go_enter Tryz.func53, Tryz.ntmps53
        go_wp2_with fail
        refine hty.mono ?_; rintro e w1 ⟨rfl, hb1⟩
        go_wp2_with fail
        refine (hnn _ (hE.below hb1)).mono ?_; rintro e w2 ⟨rfl, hb2⟩
        go_wp2_with fail
        go_ret2
        exact NmTxt.mk' HR.out (below_trans hb1 hb2)
      · have hne : n.isEmpty = false := by simpa using hn0
        by_cases h200 : 200 < v.length
        · have HR := Lib.hid (HV.out.trans (if_pos (.inr (.inr h200))))
          have hz : (200 : Int) < (v.length : Int) := by omega
          clear HV
          go_enter Tryz.func53, Tryz.ntmps53
          go_wp2_with fail
          refine hty.mono ?_; rintro e w1 ⟨rfl, hb1⟩
          go_wp2_with fail
          refine (hnn _ (hE.below hb1)).mono ?_; rintro e w2 ⟨rfl, hb2⟩
          go_wp2_with fail
          go_ret2
          exact NmTxt.mk' HR.out (below_trans hb1 hb2)
        · have HR := Lib.hid (HV.out.trans (if_neg (fun h => h.elim (fun h => h rfl) (fun h => h.elim hn0 h200))))
          have hz : decide ((200 : Int) < (v.length : Int)) = false := decide_eq_false (by omega)
          clear HV
          go_enter Tryz.func53, Tryz.ntmps53
          go_wp2_with fail
          refine hty.mono ?_; rintro e w1 ⟨rfl, hb1⟩
          go_wp2_with fail
          refine (hnn _ (hE.below hb1)).mono ?_; rintro e w2 ⟨rfl, hb2⟩
          go_wp2_with fail
          go_ret2
          exact NmTxt.mk' HR.out (below_trans hb1 hb2)
    · have HR := Lib.hid (HV.out.trans (if_pos (.inl he)))
      have hez : (e0 != 0) = true := by simpa using he
      clear HV
      go_enter Tryz.func53, Tryz.ntmps53
      go_wp2_with fail
      refine hty.mono ?_; rintro e w1 ⟨rfl, hb1⟩
      go_wp2_with fail
      refine (hnn _ (hE.below hb1)).mono ?_; rintro e w2 ⟨rfl, hb2⟩
      go_wp2_with fail
      go_ret2
      exact NmTxt.mk' HR.out (below_trans hb1 hb2)
  · have HR := Lib.hid (value_other (v := v) HT.out h5)
    have hez : (sy != 5) = true := by simpa using h5
    generalize RuS.normal nm v = R at *
    obtain ⟨r, e0⟩ := R
    simp only at hnm
    clear hnn
    go_enter Tryz.func53, Tryz.ntmps53
    go_wp2_with fail
    refine hty.mono ?_; rintro e w1 ⟨rfl, hb1⟩
    go_wp2_with fail
    refine (hnm _ (hE.below hb1)).mono ?_; rintro e w2 ⟨rfl, hb2⟩
    go_wp2_with fail
    go_ret2
    exact NmTxt.mk' HR.out (below_trans hb1 hb2)

end Go.Proofs.YtjmfknfponjgkaaGreatDoor
