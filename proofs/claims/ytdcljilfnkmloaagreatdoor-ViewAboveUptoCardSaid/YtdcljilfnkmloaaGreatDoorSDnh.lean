/- The walks of 'rest', 'below' and of Under, the program's and the document's. Conditions: at most 1000000 texts, bytes; the library's variables are laid. The walks of Compare of two names, the program's and the document's, and of the values of names. Conditions: the texts have at most 1000000 bytes; the library's variables are laid. The walks of a value's normal form, the program's and the document's. Conditions: the texts have at most 1000000 bytes; the library's variables are laid. The walks of Join, and of the document's 'fit'. Conditions: the texts have at most 1000000 bytes; the library's variables are laid. The walks of slices.Grow of the nil slice of texts and of slices.Concat of two. Conditions: at most 1000 texts each. The walks of Move of a name, the program's and the document's. Conditions: the texts have at most 1000000 bytes; the library's variables are laid. -/
import Derived.BigQuiet
import Derived.Lib.AppendZeros
import Derived.Maps.AppendAt
import Derived.Test.YtdcljilfnkmloaaGreatDoorSDnd
import Derived.Test.YtdcljilfnkmloaaGreatDoorSAva
import Derived.Test.YtdcljilfnkmloaaGreatDoorSRug
namespace Go.Proofs.YtdcljilfnkmloaaGreatDoor
open Go.RowKit

theorem equal_c (v1 v2 : Value) (xs ys : List (List UInt8)) (w : World) (h1 : StrsIn w v1 xs) (h2 : StrsIn w v2 ys) (hl : xs.length ≤ 1000000) (hl2 : ys.length ≤ 1000000) : Calls Tryz.prog 187 #[v1, v2] w (NmBool (decide (xs = ys)) w) := by
  obtain ⟨a1, c1, rfl, hc1, hcase1⟩ := h1
  obtain ⟨a2, c2, rfl, hc2, hcase2⟩ := h2
  by_cases hlen : xs.length = ys.length
  · by_cases h0 : xs = []
    · subst h0
      have hy : ys = [] := List.eq_nil_of_length_eq_zero hlen.symm
      subst hy
      refine (Tryz.slices_Equal_string_empty a1 a2 c1 0 c2 w (by omega)).mono ?_
      rintro e w' ⟨rfl, rfl⟩
      exact ⟨rfl, Below.refl _ _⟩
    · have h0' : ys ≠ [] := fun h => h0 (List.eq_nil_of_length_eq_zero (by rw [hlen, h]; rfl))
      rcases hcase1 with hcase1 | ⟨g1, o1, rfl, hg1, hcell1⟩
      · exact absurd hcase1 h0
      rcases hcase2 with hcase2 | ⟨g2, o2, rfl, hg2, hcell2⟩
      · exact absurd hcase2 h0'
      have hm : ∀ (zs : List (List UInt8)) (g o : Nat), (∀ (j : Nat) (y : List UInt8), zs[j]? = some y → w.cell? ⟨g, o + j, none⟩ = some (strV y)) → ∀ j, j < (zs.map (fun t : List UInt8 => (⟨t.toArray⟩ : ByteArray))).length → w.cell? ⟨g, o + j, none⟩ = some (.string ((zs.map (fun t : List UInt8 => (⟨t.toArray⟩ : ByteArray))).getD j ByteArray.empty)) := fun zs g o hz j hj => by
        have hj2 : j < zs.length := by simpa using hj
        rw [hz j zs[j] (List.getElem?_eq_getElem hj2), List.getD_eq_getElem?_getD, List.getElem?_map, List.getElem?_eq_getElem hj2]
        rfl
      refine (Tryz.slices_Equal_string g1 o1 xs.length c1 g2 o2 ys.length c2 _ _ w (by rw [List.length_map]; omega) (by rw [List.length_map]; omega) (by omega) (by omega) (hm xs g1 o1 hcell1) (hm ys g2 o2 hcell2)).mono ?_
      rintro e w' ⟨rfl, q, rfl⟩
      refine ⟨?_, below_drewN w q⟩
      have hinj : ((xs.map (fun t : List UInt8 => (⟨t.toArray⟩ : ByteArray))).take xs.length = (ys.map (fun t : List UInt8 => (⟨t.toArray⟩ : ByteArray))).take ys.length) ↔ xs = ys := by
        rw [List.take_of_length_le (by rw [List.length_map]; exact Nat.le_refl _), List.take_of_length_le (by rw [List.length_map]; exact Nat.le_refl _)]
        constructor
        · intro h
          have h2 := congrArg (List.map (fun b : ByteArray => b.data.toList)) h
          rw [List.map_map, List.map_map] at h2
          have e : ((fun b : ByteArray => b.data.toList) ∘ fun t : List UInt8 => (⟨t.toArray⟩ : ByteArray)) = id := by funext t; simp
          rw [e, List.map_id, List.map_id] at h2
          exact h2
        · intro h; rw [h]
      simp only [hinj]
  · refine (Tryz.slices_Equal_string_lens a1 a2 xs.length c1 ys.length c2 w hlen).mono ?_
    rintro e w' ⟨rfl, rfl⟩
    exact ⟨by rw [decide_eq_false (fun h => hlen (by rw [h]))], Below.refl _ _⟩

/-- a part of a list of texts, and whether it is one -/
def PartOf (r : Option (List (List UInt8))) (w : World) (e : Ending) (w' : World) : Prop := ∃ v, e = .returned (.tuple #[v, .bool r.isSome]) ∧ StrsIn w' v (r.getD []) ∧ Below w.heap.size w w'
theorem PartOf.no {r : Option (List (List UInt8))} {w w' : World} (h : r = none) (hb : Below w.heap.size w w') : PartOf r w (.returned (.tuple #[.slice none 0 0, .bool false])) w' := by
  subst h; exact ⟨_, rfl, StrsIn.empty w', hb⟩
theorem PartOf.yes {r : Option (List (List UInt8))} {q : List (List UInt8)} {v : Value} {w w' : World} (h : r = some q) (hv : StrsIn w' v q) (hb : Below w.heap.size w w') : PartOf r w (.returned (.tuple #[v, .bool true])) w' := by
  subst h; exact ⟨_, rfl, hv, hb⟩
theorem below_few {a b : List (List UInt8)} (h : a.length < b.length) : DnS.belowS a b = none := by unfold DnS.belowS; rw [if_pos h]
theorem below_yes {a b : List (List UInt8)} (h : ¬ a.length < b.length) (h2 : a.drop (a.length - b.length) = b) : DnS.belowS a b = some (a.take (a.length - b.length)) := by unfold DnS.belowS; rw [if_neg h, if_pos h2]
theorem below_no {a b : List (List UInt8)} (h : ¬ a.length < b.length) (h2 : ¬ a.drop (a.length - b.length) = b) : DnS.belowS a b = none := by unfold DnS.belowS; rw [if_neg h, if_neg h2]

theorem Own.plain {w : World} {B : Nat} {v : Value} {xs : List (List UInt8)} (h : Own w B v xs) : (v = .slice none 0 0 ∧ xs = []) ∨ ∃ g c, v = .slice (some ⟨g, 0, none⟩) xs.length c ∧ xs.length ≤ c := by
  rcases h.2 with ⟨rfl, hn⟩ | ⟨g, cap, cur, rfl, _, _, hn, _⟩
  · exact .inl ⟨rfl, List.eq_nil_of_length_eq_zero hn⟩
  · exact .inr ⟨g, cap, rfl, hn⟩
set_option maxRecDepth 100000 in
theorem dnrest_c (v1 v2 : Value) (xs ys : List (List UInt8)) (w : World) (B1 : Nat) (h1 : Own w B1 v1 xs) (h2 : StrsIn w v2 ys) (hl : xs.length ≤ 1000) (hl2 : ys.length ≤ 1000) : Calls Tryz.prog 160 #[v1, v2] w (PartOf (DnS.belowS xs ys) w) := by
  have hs1 := h1.strs
  obtain ⟨a2, c2, rfl⟩ := h2.form
  by_cases hlt : xs.length < ys.length
  · have HR := Lib.hid (below_few hlt)
    obtain ⟨a1, c1, rfl⟩ := h1.form
    clear h1 h2 hs1
    generalize xs.length = n at *
    generalize ys.length = m at *
    have hz : (n : Int) - (m : Int) < 0 := by omega
    go_enter Tryz.func160, Tryz.ntmps160
    go_wp2_with fail
    go_ret2
    exact PartOf.no HR.out (Below.refl _ _)
  · obtain ⟨k, hk⟩ : ∃ k, xs.length = k + ys.length := ⟨xs.length - ys.length, by omega⟩
    have hkk : xs.length - ys.length = k := by omega
    have HY := Lib.hid (below_yes hlt)
    have HNO := Lib.hid (below_no hlt)
    rw [hkk] at HY HNO
    rcases h1.plain with ⟨rfl, rfl⟩ | ⟨g, c1, rfl, hc1⟩
    · have hk0 : k = 0 := by simp at hk; omega
      have hy0 : ys = [] := List.eq_nil_of_length_eq_zero (by simp at hk; omega)
      subst hk0; subst hy0
      have HR := Lib.hid (HY.out rfl)
      clear HY HNO hkk hk hs1 h1 hlt
      go_enter Tryz.func160, Tryz.ntmps160
      go_wp2_with fail
      refine (equal_c _ _ [] [] _ (StrsIn.nil _ _ _) h2 (by simp) (by simp)).mono ?_; rintro e w1 ⟨rfl, hb⟩
      rw [decide_eq_true rfl]
      go_wp2_with fail
      go_ret2
      exact PartOf.yes HR.out (StrsIn.nil _ _ _) hb
    · have htk : StrsIn w (.slice (some ⟨g, 0, none⟩) k c1) (xs.take k) := hs1.take (k := k) (by omega)
      have HTK := Lib.hid htk
      have hdl : (xs.drop k).length = ys.length := by rw [List.length_drop]; omega
      by_cases hkc : k = c1
      · have hy : ys = [] := List.eq_nil_of_length_eq_zero (by omega)
        subst hy
        have hd : xs.drop k = [] := List.eq_nil_of_length_eq_zero (by rw [hdl]; rfl)
        have HR := Lib.hid (HY.out hd)
        subst hkc
        have hxk : xs.length = k := by simpa using hk
        rw [hxk] at hl ⊢
        have H2 := Lib.hid h2
        clear h1 h2 hk hkk HY HNO htk hdl hd hlt hc1 hxk hs1
        go_enter Tryz.func160, Tryz.ntmps160
        go_wp2_with fail
        refine (equal_c _ _ [] [] _ (StrsIn.nil _ _ _) H2.out (by simp) (by simp)).mono ?_; rintro e w1 ⟨rfl, hb⟩
        rw [decide_eq_true rfl]
        go_wp2_with fail
        go_ret2
        exact PartOf.yes HR.out (HTK.out.call hb (Nat.le_refl _)) hb
      · have hdr : StrsIn w (.slice (some ⟨g, 0 + k, none⟩) (xs.length - k) (c1 - k)) (xs.drop k) := by
          rcases Nat.eq_zero_or_pos xs.length with h0 | h0
          · have : xs = [] := List.eq_nil_of_length_eq_zero h0
            subst this
            simpa using StrsIn.nil w _ _
          · obtain ⟨g', o', e, h⟩ := hs1.drop (k := k) (by omega) h0
            cases e; exact h
        rw [Nat.zero_add, hk, Nat.add_sub_cancel_left] at hdr
        have HDR := Lib.hid hdr
        have H2 := Lib.hid h2
        have hkc2 : k ≤ c1 := by omega
        rw [hk] at hl hc1 ⊢
        generalize hm : ys.length = m at *
        have HX := Lib.hid (⟨by omega, by omega⟩ : (xs.drop k).length ≤ 1000000 ∧ ys.length ≤ 1000000)
        clear h1 h2 hk hkk htk hdl hs1 hm hlt hdr
        go_enter Tryz.func160, Tryz.ntmps160
        go_wp2_with fail
        refine (equal_c _ _ (xs.drop k) ys _ HDR.out H2.out HX.out.1 HX.out.2).mono ?_; rintro e w1 ⟨rfl, hb⟩
        by_cases hd : xs.drop k = ys
        · have HR := Lib.hid (HY.out hd)
          rw [decide_eq_true hd]
          clear hd HY HNO
          go_wp2_with fail
          go_ret2
          exact PartOf.yes HR.out (HTK.out.call hb (Nat.le_refl _)) hb
        · have HR := Lib.hid (HNO.out hd)
          rw [decide_eq_false hd]
          clear hd HY HNO
          go_wp2_with fail
          go_ret2
          exact PartOf.no HR.out hb

set_option maxRecDepth 100000 in
theorem dnunder_c (a b : List UInt8) (ha : a.length ≤ 1000000) (hb0 : b.length ≤ 1000000) (w : World) (hE : Env w) : Calls Tryz.prog 135 #[.string ⟨a.toArray⟩, .string ⟨b.toArray⟩] w (NmBool (DnS.underS a b) w) := by
  have hp := dnparts_c a ha w hE
  have hq := fun w hE => dnparts_c b hb0 w hE
  unfold PartsRet at hp hq
  have HU : Hid (DnS.underS a b = (decide ((DnS.textsS a).2 = 0) && decide ((DnS.textsS b).2 = 0) && (DnS.belowS (DnS.textsS a).1 (DnS.textsS b).1).isSome)) := Lib.hid rfl
  have hla := (DnS.texts_len a).1
  have hlb := (DnS.texts_len b).1
  generalize DnS.textsS a = X at *
  generalize DnS.textsS b = Y at *
  obtain ⟨tx, ex⟩ := X
  obtain ⟨ty, ey⟩ := Y
  simp only at hp hq hla hlb HU
  go_enter Tryz.func135, Tryz.ntmps135
  go_wp2_with fail
  refine hp.mono ?_; rintro e w1 ⟨v1, rfl, hox, hb1⟩
  go_wp2_with fail
  refine (hq _ (hE.below hb1)).mono ?_; rintro e w2 ⟨v2, rfl, hoy, hb2⟩
  have hbb := below_trans hb1 hb2
  go_wp2_with fail
  refine (dnrest_c _ _ tx ty _ w.heap.size (hox.call hb2) hoy.strs (by omega) (by omega)).mono ?_; rintro e w3 ⟨v3, rfl, -, hb3⟩
  have HB := Lib.hid (below_trans hbb hb3)
  generalize (DnS.belowS tx ty).isSome = r at *
  clear hp hq hox hoy hb1 hb2 hb3 hbb
  by_cases hx : ex = 0 <;> by_cases hy : ey = 0 <;> cases r
  all_goals
    have hx1 : (ex == 0) = decide (ex = 0) := rfl
    have hy1 : (ey == 0) = decide (ey = 0) := rfl
    have HV := HU.out
    simp only [hx, hy, decide_true, decide_false, Bool.and_true, Bool.and_false] at hx1 hy1 HV
    have HR := Lib.hid HV
    clear HV HU
    try subst hx
    try subst hy
    go_wp2_with fail
    go_ret
    exact ⟨by rw [HR.out]; rfl, HB.out⟩

end Go.Proofs.YtdcljilfnkmloaaGreatDoor
namespace Go.Proofs.YtdcljilfnkmloaaGreatDoor
open Go.RowKit

theorem value_other {nm v : List UInt8} {t : List UInt8} {sy : Int} (h : RuS.typeOf nm = (t, sy)) (h5 : sy ≠ 5) : DnS.valueS nm v = RuS.normal nm v := by
  unfold DnS.valueS; rw [h, if_neg h5]
theorem value_name {nm v : List UInt8} {t : List UInt8} (h : RuS.typeOf nm = (t, 5)) : DnS.valueS nm v = if (DnS.normN v).2 ≠ 0 ∨ (DnS.normN v).1 = [] ∨ 200 < v.length then ([], 2) else ((DnS.normN v).1, 0) := by
  rw [DnS.valueS_alt, h, if_pos rfl]
theorem value_name2 {nm v : List UInt8} {t : List UInt8} (h : RuS.typeOf nm = (t, 5)) : DnS.valueS nm v = if v.length < 1 ∨ 200 < v.length then ([], 2) else if (DnS.normN v).2 = 0 then ((DnS.normN v).1, 0) else ([], 2) := by
  unfold DnS.valueS; rw [h, if_pos rfl]
theorem NmTxt.mk' {r q : List UInt8 × Int} {w w' : World} (h : r = q) (hb : Below w.heap.size w w') : NmTxt r w (.returned (.tuple #[.string ⟨q.1.toArray⟩, .int .i64 q.2])) w' := by subst h; exact ⟨rfl, hb⟩

set_option maxRecDepth 100000 in
theorem dnvalue_c (nm v : List UInt8) (hn : nm.length ≤ 1048576) (hv : v.length ≤ 1000000) (w : World) (hE : Env w) : Calls Tryz.prog 25 #[.string ⟨nm.toArray⟩, .string ⟨v.toArray⟩] w (NmTxt (DnS.valueS nm v) w) := by
  have f1 : (⟨nm.toArray⟩ : ByteArray).size ≤ 9223372036854775807 := by show nm.toArray.size ≤ _; rw [List.size_toArray]; omega
  have f2 : (⟨v.toArray⟩ : ByteArray).size ≤ 9223372036854775807 := by show v.toArray.size ≤ _; rw [List.size_toArray]; omega
  have hty := type_c ⟨nm.toArray⟩ f1 w
  have hnm := fun w hE => rulenormal_c ⟨nm.toArray⟩ ⟨v.toArray⟩ f1 f2 w hE
  have hnn := fun w hE => dnnormal_c v hv w hE
  unfold TypeRet at hty
  unfold NormRet at hnm
  unfold NmTxt at hnn
  simp only at hty hnm
  obtain ⟨T, hT⟩ : ∃ T, RuS.typeOf nm = T := ⟨_, rfl⟩
  rw [hT] at hty
  obtain ⟨t, sy⟩ := T
  have HT := Lib.hid hT
  simp only at hty
  clear hT f1 f2
  by_cases h5 : sy = 5
  · subst h5
    have HV := Lib.hid (value_name (v := v) HT.out)
    clear hnm
    generalize DnS.normN v = N at *
    obtain ⟨n, e0⟩ := N
    simp only at hnn HV
    by_cases he : e0 = 0
    · subst he
      by_cases hn0 : n = []
      · have HR := Lib.hid (HV.out.trans (if_pos (.inr (.inl hn0))))
        have hne : n.isEmpty = true := by rw [hn0]; rfl
        clear HV
        go_enter Tryz.func25, Tryz.ntmps25
        go_wp2_with fail
        refine hty.mono ?_; rintro e w1 ⟨rfl, hb1⟩
        go_wp2_with fail
        refine (hnn _ (hE.below hb1)).mono ?_; rintro e w2 ⟨rfl, hb2⟩
        go_wp2_with fail
        go_ret2
        exact NmTxt.mk' HR.out (below_trans hb1 hb2)
      · have hne : n.isEmpty = false := by simpa using hn0
        by_cases h200 : 200 < v.length
        · have HR := Lib.hid (HV.out.trans (if_pos (.inr (.inr h200))))
          have hz : (200 : Int) < (v.length : Int) := by omega
          clear HV
          go_enter Tryz.func25, Tryz.ntmps25
          go_wp2_with fail
          refine hty.mono ?_; rintro e w1 ⟨rfl, hb1⟩
          go_wp2_with fail
          refine (hnn _ (hE.below hb1)).mono ?_; rintro e w2 ⟨rfl, hb2⟩
          go_wp2_with fail
          go_ret2
          exact NmTxt.mk' HR.out (below_trans hb1 hb2)
        · have HR := Lib.hid (HV.out.trans (if_neg (fun h => h.elim (fun h => h rfl) (fun h => h.elim hn0 h200))))
          have hz : decide ((200 : Int) < (v.length : Int)) = false := decide_eq_false (by omega)
          clear HV
          go_enter Tryz.func25, Tryz.ntmps25
          go_wp2_with fail
          refine hty.mono ?_; rintro e w1 ⟨rfl, hb1⟩
          go_wp2_with fail
          refine (hnn _ (hE.below hb1)).mono ?_; rintro e w2 ⟨rfl, hb2⟩
          go_wp2_with fail
          go_ret2
          exact NmTxt.mk' HR.out (below_trans hb1 hb2)
    · have HR := Lib.hid (HV.out.trans (if_pos (.inl he)))
      have hez : (e0 != 0) = true := by simpa using he
      clear HV
      go_enter Tryz.func25, Tryz.ntmps25
      go_wp2_with fail
      refine hty.mono ?_; rintro e w1 ⟨rfl, hb1⟩
      go_wp2_with fail
      refine (hnn _ (hE.below hb1)).mono ?_; rintro e w2 ⟨rfl, hb2⟩
      go_wp2_with fail
      go_ret2
      exact NmTxt.mk' HR.out (below_trans hb1 hb2)
  · have HR := Lib.hid (value_other (v := v) HT.out h5)
    have hez : (sy != 5) = true := by simpa using h5
    generalize RuS.normal nm v = R at *
    obtain ⟨r, e0⟩ := R
    simp only at hnm
    clear hnn
    go_enter Tryz.func25, Tryz.ntmps25
    go_wp2_with fail
    refine hty.mono ?_; rintro e w1 ⟨rfl, hb1⟩
    go_wp2_with fail
    refine (hnm _ (hE.below hb1)).mono ?_; rintro e w2 ⟨rfl, hb2⟩
    go_wp2_with fail
    go_ret2
    exact NmTxt.mk' HR.out (below_trans hb1 hb2)

set_option maxRecDepth 100000 in
theorem rnvalue_c (nm v : List UInt8) (hn : nm.length ≤ 1048576) (hv : v.length ≤ 1000000) (w : World) (hE : Env w) : Calls Tryz.prog 32 #[.string ⟨nm.toArray⟩, .string ⟨v.toArray⟩] w (NmTxt (DnS.valueS nm v) w) := by
  have f1 : (⟨nm.toArray⟩ : ByteArray).size ≤ 9223372036854775807 := by show nm.toArray.size ≤ _; rw [List.size_toArray]; omega
  have f2 : (⟨v.toArray⟩ : ByteArray).size ≤ 9223372036854775807 := by show v.toArray.size ≤ _; rw [List.size_toArray]; omega
  have hty := reftype_c ⟨nm.toArray⟩ f1 w
  have hnm := fun w hE => refnormal_c ⟨nm.toArray⟩ ⟨v.toArray⟩ f1 f2 w hE
  have hnn := fun w hE => rnnormal_c v hv w hE
  unfold TypeRet at hty
  unfold NormRet at hnm
  unfold NmTxt at hnn
  simp only at hty hnm
  obtain ⟨T, hT⟩ : ∃ T, RuS.typeOf nm = T := ⟨_, rfl⟩
  rw [hT] at hty
  obtain ⟨t, sy⟩ := T
  have HT := Lib.hid hT
  simp only at hty
  clear hT f1 f2
  by_cases h5 : sy = 5
  · subst h5
    have HV := Lib.hid (value_name2 (v := v) HT.out)
    clear hnm
    generalize DnS.normN v = N at *
    obtain ⟨n, e0⟩ := N
    simp only at hnn HV
    by_cases h1 : v.length < 1
    · have HR := Lib.hid (HV.out.trans (if_pos (.inl h1)))
      have hz : decide ((v.length : Int) < (1 : Int)) = true := decide_eq_true (by omega)
      have hz2 : v.length = 0 := by omega
      have hz3 : v = [] := List.eq_nil_of_length_eq_zero hz2
      clear HV
      subst hz3
      go_enter Tryz.func32, Tryz.ntmps32
      go_wp2_with fail
      refine hty.mono ?_; rintro e w1 ⟨rfl, hb1⟩
      go_wp2_with fail
      go_ret2
      exact NmTxt.mk' HR.out hb1
    · have hz : decide ((v.length : Int) < (1 : Int)) = false := decide_eq_false (by omega)
      have hz3 : (v.length : Int) ≠ 0 := by omega
      have hz4 : 1 ≤ (v.length : Int) := by omega
      have hz5 : 0 < v.length := by omega
      by_cases h200 : 200 < v.length
      · have HR := Lib.hid (HV.out.trans (if_pos (.inr h200)))
        have hz2 : (200 : Int) < (v.length : Int) := by omega
        clear HV
        go_enter Tryz.func32, Tryz.ntmps32
        go_wp2_with fail
        refine hty.mono ?_; rintro e w1 ⟨rfl, hb1⟩
        go_wp2_with fail
        go_ret2
        exact NmTxt.mk' HR.out hb1
      · have hz2 : decide ((200 : Int) < (v.length : Int)) = false := decide_eq_false (by omega)
        have HV2 := Lib.hid (HV.out.trans (if_neg (fun h => h.elim h1 h200)))
        clear HV
        by_cases he : e0 = 0
        · subst he
          have HR := Lib.hid (HV2.out.trans (if_pos rfl))
          clear HV2
          go_enter Tryz.func32, Tryz.ntmps32
          go_wp2_with fail
          refine hty.mono ?_; rintro e w1 ⟨rfl, hb1⟩
          go_wp2_with fail
          refine (hnn _ (hE.below hb1)).mono ?_; rintro e w2 ⟨rfl, hb2⟩
          go_wp2_with fail
          go_ret2
          exact NmTxt.mk' HR.out (below_trans hb1 hb2)
        · have HR := Lib.hid (HV2.out.trans (if_neg he))
          have hez : (e0 != 0) = true := by simpa using he
          clear HV2
          go_enter Tryz.func32, Tryz.ntmps32
          go_wp2_with fail
          refine hty.mono ?_; rintro e w1 ⟨rfl, hb1⟩
          go_wp2_with fail
          refine (hnn _ (hE.below hb1)).mono ?_; rintro e w2 ⟨rfl, hb2⟩
          go_wp2_with fail
          go_ret2
          exact NmTxt.mk' HR.out (below_trans hb1 hb2)
  · have HR := Lib.hid (value_other (v := v) HT.out h5)
    have hez : (sy != 5) = true := by simpa using h5
    generalize RuS.normal nm v = R at *
    obtain ⟨r, e0⟩ := R
    simp only at hnm
    clear hnn
    go_enter Tryz.func32, Tryz.ntmps32
    go_wp2_with fail
    refine hty.mono ?_; rintro e w1 ⟨rfl, hb1⟩
    go_wp2_with fail
    refine (hnm _ (hE.below hb1)).mono ?_; rintro e w2 ⟨rfl, hb2⟩
    go_wp2_with fail
    go_ret2
    exact NmTxt.mk' HR.out (below_trans hb1 hb2)
end Go.Proofs.YtdcljilfnkmloaaGreatDoor
namespace Go.Proofs.YtdcljilfnkmloaaGreatDoor
open Go.RowKit

def OwnRet (w : World) (xs : List (List UInt8)) (e : Ending) (w' : World) : Prop := ∃ v, e = .returned v ∧ Own w' w.heap.size v xs ∧ Below w.heap.size w w'
end Go.Proofs.YtdcljilfnkmloaaGreatDoor
