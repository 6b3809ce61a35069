/- The walks of 'rest', 'below' and of Under, the program's and the document's. Conditions: at most 1000000 texts, bytes; the library's variables are laid. The walks of Compare of two names, the program's and the document's, and of the values of names. Conditions: the texts have at most 1000000 bytes; the library's variables are laid. The walks of a value's normal form, the program's and the document's. Conditions: the texts have at most 1000000 bytes; the library's variables are laid. The walks of Join, and of the document's 'fit'. Conditions: the texts have at most 1000000 bytes; the library's variables are laid. The walks of slices.Grow of the nil slice of texts and of slices.Concat of two. Conditions: at most 400000 texts each. The walks of Move of a name, the program's and the document's. Conditions: the texts have at most 1000000 bytes; the library's variables are laid. -/
import Derived.BigQuiet
import Derived.Lib.AppendZeros
import Derived.Maps.AppendAt
import Derived.Test.YtmnhgbkdahdoiaaGreatDoorMDnd
import Derived.Test.YtmnhgbkdahdoiaaGreatDoorMAva
import Derived.Test.YtmnhgbkdahdoiaaGreatDoorMRug
namespace Go.Proofs.YtmnhgbkdahdoiaaGreatDoor
open Go.RowKit

/-- a part of a list of texts, and whether it is one -/
def PartOf (r : Option (List (List UInt8))) (w : World) (e : Ending) (w' : World) : Prop := ∃ v, e = .returned (.tuple #[v, .bool r.isSome]) ∧ StrsIn w' v (r.getD []) ∧ Below w.heap.size w w'
theorem PartOf.no {r : Option (List (List UInt8))} {w w' : World} (h : r = none) (hb : Below w.heap.size w w') : PartOf r w (.returned (.tuple #[.slice none 0 0, .bool false])) w' := by
  subst h; exact ⟨_, rfl, StrsIn.empty w', hb⟩
theorem PartOf.yes {r : Option (List (List UInt8))} {q : List (List UInt8)} {v : Value} {w w' : World} (h : r = some q) (hv : StrsIn w' v q) (hb : Below w.heap.size w w') : PartOf r w (.returned (.tuple #[v, .bool true])) w' := by
  subst h; exact ⟨_, rfl, hv, hb⟩
theorem Own.plain {w : World} {B : Nat} {v : Value} {xs : List (List UInt8)} (h : Own w B v xs) : (v = .slice none 0 0 ∧ xs = []) ∨ ∃ g c, v = .slice (some ⟨g, 0, none⟩) xs.length c ∧ xs.length ≤ c := by
  rcases h.2 with ⟨rfl, hn⟩ | ⟨g, cap, cur, rfl, _, _, hn, _⟩
  · exact .inl ⟨rfl, List.eq_nil_of_length_eq_zero hn⟩
  · exact .inr ⟨g, cap, rfl, hn⟩
end Go.Proofs.YtmnhgbkdahdoiaaGreatDoor
namespace Go.Proofs.YtmnhgbkdahdoiaaGreatDoor
open Go.RowKit

theorem value_other {nm v : List UInt8} {t : List UInt8} {sy : Int} (h : RuS.typeOf nm = (t, sy)) (h5 : sy ≠ 5) : DnS.valueS nm v = RuS.normal nm v := by
  unfold DnS.valueS; rw [h, if_neg h5]
theorem value_name {nm v : List UInt8} {t : List UInt8} (h : RuS.typeOf nm = (t, 5)) : DnS.valueS nm v = if (DnS.normN v).2 ≠ 0 ∨ (DnS.normN v).1 = [] ∨ 200 < v.length then ([], 2) else ((DnS.normN v).1, 0) := by
  rw [DnS.valueS_alt, h, if_pos rfl]
theorem value_name2 {nm v : List UInt8} {t : List UInt8} (h : RuS.typeOf nm = (t, 5)) : DnS.valueS nm v = if v.length < 1 ∨ 200 < v.length then ([], 2) else if (DnS.normN v).2 = 0 then ((DnS.normN v).1, 0) else ([], 2) := by
  unfold DnS.valueS; rw [h, if_pos rfl]
theorem NmTxt.mk' {r q : List UInt8 × Int} {w w' : World} (h : r = q) (hb : Below w.heap.size w w') : NmTxt r w (.returned (.tuple #[.string ⟨q.1.toArray⟩, .int .i64 q.2])) w' := by subst h; exact ⟨rfl, hb⟩

set_option maxRecDepth 100000 in
theorem dnvalue_c (nm v : List UInt8) (hn : nm.length ≤ 1048576) (hv : v.length ≤ 1000000) (w : World) (hE : Env w) : Calls Tryz.prog 39 #[.string ⟨nm.toArray⟩, .string ⟨v.toArray⟩] w (NmTxt (DnS.valueS nm v) w) := by
  have f1 : (⟨nm.toArray⟩ : ByteArray).size ≤ 9223372036854775807 := by show nm.toArray.size ≤ _; rw [List.size_toArray]; omega
  have f2 : (⟨v.toArray⟩ : ByteArray).size ≤ 9223372036854775807 := by show v.toArray.size ≤ _; rw [List.size_toArray]; omega
  have hty := type_c ⟨nm.toArray⟩ f1 w
  have hnm := fun w hE => rulenormal_c ⟨nm.toArray⟩ ⟨v.toArray⟩ f1 f2 w hE
  have hnn := fun w hE => dnnormal_c v hv w hE
  unfold TypeRet at hty
  unfold NormRet at hnm
  unfold NmTxt at hnn
  simp only at hty hnm
  obtain ⟨T, hT⟩ : ∃ T, RuS.typeOf nm = T := ⟨_, rfl⟩
  rw [hT] at hty
  obtain ⟨t, sy⟩ := T
  have HT := Lib.hid hT
  simp only at hty
  clear hT f1 f2
  by_cases h5 : sy = 5
  · subst h5
    have HV := Lib.hid (value_name (v := v) HT.out)
    clear hnm
    generalize DnS.normN v = N at *
    obtain ⟨n, e0⟩ := N
    simp only at hnn HV
    by_cases he : e0 = 0
    · subst he
      by_cases hn0 : n = []
      · have HR := Lib.hid (HV.out.trans (if_pos (.inr (.inl hn0))))
        have hne : n.isEmpty = true := by rw [hn0]; rfl
        clear HV
        go_enter Tryz.func39, Tryz.ntmps39
        go_wp2_with fail
        refine hty.mono ?_; rintro e w1 ⟨rfl, hb1⟩
        go_wp2_with fail
        refine (hnn _ (hE.below hb1)).mono ?_; rintro e w2 ⟨rfl, hb2⟩
        go_wp2_with fail
        go_ret2
        exact NmTxt.mk' HR.out (below_trans hb1 hb2)
      · have hne : n.isEmpty = false := by simpa using hn0
        by_cases h200 : 200 < v.length
        · have HR := Lib.hid (HV.out.trans (if_pos (.inr (.inr h200))))
          have hz : (200 : Int) < (v.length : Int) := by omega
          clear HV
          go_enter Tryz.func39, Tryz.ntmps39
          go_wp2_with fail
          refine hty.mono ?_; rintro e w1 ⟨rfl, hb1⟩
          go_wp2_with fail
          refine (hnn _ (hE.below hb1)).mono ?_; rintro e w2 ⟨rfl, hb2⟩
          go_wp2_with fail
          go_ret2
          exact NmTxt.mk' HR.out (below_trans hb1 hb2)
        · have HR := Lib.hid (HV.out.trans (if_neg (fun h => h.elim (fun h => h rfl) (fun h => h.elim hn0 h200))))
          have hz : decide ((200 : Int) < (v.length : Int)) = false := decide_eq_false (by omega)
          clear HV
          go_enter Tryz.func39, Tryz.ntmps39
          go_wp2_with fail
          refine hty.mono ?_; rintro e w1 ⟨rfl, hb1⟩
          go_wp2_with fail
          refine (hnn _ (hE.below hb1)).mono ?_; rintro e w2 ⟨rfl, hb2⟩
          go_wp2_with fail
          go_ret2
          exact NmTxt.mk' HR.out (below_trans hb1 hb2)
    · have HR := Lib.hid (HV.out.trans (if_pos (.inl he)))
      have hez : (e0 != 0) = true := by simpa using he
      clear HV
      go_enter Tryz.func39, Tryz.ntmps39
      go_wp2_with fail
      refine hty.mono ?_; rintro e w1 ⟨rfl, hb1⟩
      go_wp2_with fail
      refine (hnn _ (hE.below hb1)).mono ?_; rintro e w2 ⟨rfl, hb2⟩
      go_wp2_with fail
      go_ret2
      exact NmTxt.mk' HR.out (below_trans hb1 hb2)
  · have HR := Lib.hid (value_other (v := v) HT.out h5)
    have hez : (sy != 5) = true := by simpa using h5
    generalize RuS.normal nm v = R at *
    obtain ⟨r, e0⟩ := R
    simp only at hnm
    clear hnn
    go_enter Tryz.func39, Tryz.ntmps39
    go_wp2_with fail
    refine hty.mono ?_; rintro e w1 ⟨rfl, hb1⟩
    go_wp2_with fail
    refine (hnm _ (hE.below hb1)).mono ?_; rintro e w2 ⟨rfl, hb2⟩
    go_wp2_with fail
    go_ret2
    exact NmTxt.mk' HR.out (below_trans hb1 hb2)

set_option maxRecDepth 100000 in
theorem rnvalue_c (nm v : List UInt8) (hn : nm.length ≤ 1048576) (hv : v.length ≤ 1000000) (w : World) (hE : Env w) : Calls Tryz.prog 28 #[.string ⟨nm.toArray⟩, .string ⟨v.toArray⟩] w (NmTxt (DnS.valueS nm v) w) := by
  have f1 : (⟨nm.toArray⟩ : ByteArray).size ≤ 9223372036854775807 := by show nm.toArray.size ≤ _; rw [List.size_toArray]; omega
  have f2 : (⟨v.toArray⟩ : ByteArray).size ≤ 9223372036854775807 := by show v.toArray.size ≤ _; rw [List.size_toArray]; omega
  have hty := reftype_c ⟨nm.toArray⟩ f1 w
  have hnm := fun w hE => refnormal_c ⟨nm.toArray⟩ ⟨v.toArray⟩ f1 f2 w hE
  have hnn := fun w hE => rnnormal_c v hv w hE
  unfold TypeRet at hty
  unfold NormRet at hnm
  unfold NmTxt at hnn
  simp only at hty hnm
  obtain ⟨T, hT⟩ : ∃ T, RuS.typeOf nm = T := ⟨_, rfl⟩
  rw [hT] at hty
  obtain ⟨t, sy⟩ := T
  have HT := Lib.hid hT
  simp only at hty
  clear hT f1 f2
  by_cases h5 : sy = 5
  · subst h5
    have HV := Lib.hid (value_name2 (v := v) HT.out)
    clear hnm
    generalize DnS.normN v = N at *
    obtain ⟨n, e0⟩ := N
    simp only at hnn HV
    by_cases h1 : v.length < 1
    · have HR := Lib.hid (HV.out.trans (if_pos (.inl h1)))
      have hz : decide ((v.length : Int) < (1 : Int)) = true := decide_eq_true (by omega)
      have hz2 : v.length = 0 := by omega
      have hz3 : v = [] := List.eq_nil_of_length_eq_zero hz2
      clear HV
      subst hz3
      go_enter Tryz.func28, Tryz.ntmps28
      go_wp2_with fail
      refine hty.mono ?_; rintro e w1 ⟨rfl, hb1⟩
      go_wp2_with fail
      go_ret2
      exact NmTxt.mk' HR.out hb1
    · have hz : decide ((v.length : Int) < (1 : Int)) = false := decide_eq_false (by omega)
      have hz3 : (v.length : Int) ≠ 0 := by omega
      have hz4 : 1 ≤ (v.length : Int) := by omega
      have hz5 : 0 < v.length := by omega
      by_cases h200 : 200 < v.length
      · have HR := Lib.hid (HV.out.trans (if_pos (.inr h200)))
        have hz2 : (200 : Int) < (v.length : Int) := by omega
        clear HV
        go_enter Tryz.func28, Tryz.ntmps28
        go_wp2_with fail
        refine hty.mono ?_; rintro e w1 ⟨rfl, hb1⟩
        go_wp2_with fail
        go_ret2
        exact NmTxt.mk' HR.out hb1
      · have hz2 : decide ((200 : Int) < (v.length : Int)) = false := decide_eq_false (by omega)
        have HV2 := Lib.hid (HV.out.trans (if_neg (fun h => h.elim h1 h200)))
        clear HV
        by_cases he : e0 = 0
        · subst he
          have HR := Lib.hid (HV2.out.trans (if_pos rfl))
          clear HV2
          go_enter Tryz.func28, Tryz.ntmps28
          go_wp2_with fail
          refine hty.mono ?_; rintro e w1 ⟨rfl, hb1⟩
          go_wp2_with fail
          refine (hnn _ (hE.below hb1)).mono ?_; rintro e w2 ⟨rfl, hb2⟩
          go_wp2_with fail
          go_ret2
          exact NmTxt.mk' HR.out (below_trans hb1 hb2)
        · have HR := Lib.hid (HV2.out.trans (if_neg he))
          have hez : (e0 != 0) = true := by simpa using he
          clear HV2
          go_enter Tryz.func28, Tryz.ntmps28
          go_wp2_with fail
          refine hty.mono ?_; rintro e w1 ⟨rfl, hb1⟩
          go_wp2_with fail
          refine (hnn _ (hE.below hb1)).mono ?_; rintro e w2 ⟨rfl, hb2⟩
          go_wp2_with fail
          go_ret2
          exact NmTxt.mk' HR.out (below_trans hb1 hb2)
  · have HR := Lib.hid (value_other (v := v) HT.out h5)
    have hez : (sy != 5) = true := by simpa using h5
    generalize RuS.normal nm v = R at *
    obtain ⟨r, e0⟩ := R
    simp only at hnm
    clear hnn
    go_enter Tryz.func28, Tryz.ntmps28
    go_wp2_with fail
    refine hty.mono ?_; rintro e w1 ⟨rfl, hb1⟩
    go_wp2_with fail
    refine (hnm _ (hE.below hb1)).mono ?_; rintro e w2 ⟨rfl, hb2⟩
    go_wp2_with fail
    go_ret2
    exact NmTxt.mk' HR.out (below_trans hb1 hb2)
end Go.Proofs.YtmnhgbkdahdoiaaGreatDoor
namespace Go.Proofs.YtmnhgbkdahdoiaaGreatDoor
open Go.RowKit

def OwnRet (w : World) (xs : List (List UInt8)) (e : Ending) (w' : World) : Prop := ∃ v, e = .returned v ∧ Own w' w.heap.size v xs ∧ Below w.heap.size w w'
set_option maxRecDepth 100000 in
theorem grow_c (n : Nat) (hn : n ≤ 1000000) (w : World) : Calls Tryz.prog 71 #[.slice none 0 0, .int .i64 n] w (OwnRet w []) := by
  rcases Nat.eq_zero_or_pos n with h0 | hpos
  · subst h0
    go_enter Tryz.func71, Tryz.ntmps71
    go_wp2_with fail
    go_ret
    exact ⟨_, rfl, Own.empty _ _, Below.refl _ _⟩
  · have h1 : ¬ ((n : Int) < 0) := by omega
    have h4 : (0 : Int) < (n : Int) := by omega
    obtain ⟨i0, hi, hz0, hz1, hz2⟩ := info_parts infoStr
    have hrz := fun ty => Lib.run_append_nil_zeros (P := Tryz.prog) w 35 3 ty 9 i0 (.string ⟨#[]⟩) .i64 .i64 Tryz.underlying35 Tryz.underlying3 hi hz0 n hpos (by omega) (by omega) (by rw [hz2]; omega)
    obtain ⟨G, hG⟩ : ∃ G, G = grownCap w n 0 9 := ⟨_, rfl⟩
    have hGn : n ≤ G := by rw [hG]; exact grownCap_ge w _ _ _
    have hGm : G ≤ maxLen := by rw [hG]; exact grownCap_le_maxLen w _ _ _ (by unfold maxLen; omega)
    rw [← hG] at hrz
    have hG63 : G ≤ 9223372036854775807 := by unfold maxLen at hGm; omega
    have HGM := Lib.hid hGm
    have HR := Lib.hid hrz
    clear hG hi hrz hz0 hz1 hz2 hGm
    have hz : (Builtin.zeroCells (Value.string ⟨#[]⟩).cells n ++ Builtin.zeroCells (Value.string ⟨#[]⟩).cells (G - n)).size = G * 1 := by
      rw [Array.size_append, size_zeroCells, size_zeroCells]
      show n * 1 + (G - n) * 1 = G * 1
      omega
    have HZ := Lib.hid hz
    clear hz
    generalize Builtin.zeroCells (Value.string ⟨#[]⟩).cells n ++ Builtin.zeroCells (Value.string ⟨#[]⟩).cells (G - n) = Z at *
    go_enter Tryz.func71, Tryz.ntmps71
    go_wp2_with (at_builtin; refine Lib.wpList_append_run _ (by rfl) _ _ _ _ (by rfl) _ _ (by rfl) (by rfl) _ _ (HR.out _) ?_)
    go_ret
    refine ⟨_, rfl, ⟨rfl, .inr ⟨w.heap.size, G, Z, rfl, Nat.le_refl _, ?_, Nat.zero_le _, HGM.out, HZ.out, rfl⟩⟩, (Below.refl _ _).drew.alloc (Nat.le_refl _) _⟩
    show (w.heap.push _)[w.heap.size]? = _
    rw [Array.getElem?_push_size]

set_option maxRecDepth 100000 in
set_option maxHeartbeats 1000000 in
theorem concat_c (b : Nat) (v1 v2 : Value) (xs ys : List (List UInt8)) (w : World) (hb : b < w.heap.size) (hc0 : w.cell? ⟨b, 0, none⟩ = some v1) (hc1 : w.cell? ⟨b, 1, none⟩ = some v2) (h1 : StrsIn w v1 xs) (h2 : StrsIn w v2 ys) (hl : xs.length ≤ 400000) (hl2 : ys.length ≤ 400000) : Calls Tryz.prog 43 #[.slice (some ⟨b, 0, none⟩) 2 2] w (OwnRet w (xs ++ ys)) := by
  have hgr := grow_c (xs.length + ys.length) (by omega) w
  obtain ⟨a1, c1, rfl⟩ := h1.form
  obtain ⟨a2, c2, rfl⟩ := h2.form
  have H1 := Lib.hid h1
  have H2 := Lib.hid h2
  clear h1 h2
  have hk : ((xs.length + ys.length : Nat) : Int) = (xs.length : Int) + (ys.length : Int) := by omega
  rw [hk] at hgr
  generalize hn : xs.length = n at *
  generalize hm : ys.length = m at *
  have HN := Lib.hid hn
  have HM := Lib.hid hm
  clear hn hm hk
  have hs1 : ¬ ((n : Int) < 0) := by omega
  have hs2 : ¬ ((n : Int) + (m : Int) < 0) := by omega
  go_enter Tryz.func43, Tryz.ntmps43
  go_wp2_with fail
  refine wp_loop_rounds 3 ?_
  repeat any_goals (rw [rounds_succ]; go_wp2_with fail)
  refine hgr.mono ?_; rintro e w1 ⟨v0, rfl, ho0, hb1⟩
  have d0 : w1.cell? ⟨b, 0, none⟩ = some (.slice a1 n c1) := keepC hc0 hb1
  have d1 : w1.cell? ⟨b, 1, none⟩ = some (.slice a2 m c2) := keepC hc1 hb1
  have hsz := hb1.size
  clear hgr hs1 hs2
  go_wp2_with fail
  refine wp_loop_rounds 3 ?_
  rw [rounds_succ]
  go_wp2_with (at_builtin; refine push_strs (by rfl) _ _ (by rfl) w.heap.size _ [] (by rfl) ho0 _ xs (by rfl) (H1.out.call hb1 (Nat.le_refl _)) ?e1 ?e2 ?_)
  case e1 => rw [HN.out]; simp; omega
  case e2 => omega
  intro v3 w3 ho3 hb3
  have d2 : w3.cell? ⟨b, 1, none⟩ = some (.slice a2 m c2) := (hb3.cell (p := ⟨b, 1, none⟩) hb).trans d1
  have hsz3 := hb3.size
  have HO3 := Lib.hid ho3
  have hbb := hb1.trans hb3
  clear ho3 d0 d1
  go_wp2_with fail
  rw [rounds_succ]
  go_wp2_with (at_builtin; refine push_strs (by rfl) _ _ (by rfl) w.heap.size _ xs (by rfl) HO3.out _ ys (by rfl) (H2.out.call hbb (Nat.le_refl _)) ?f1 ?f2 ?_)
  case f1 => rw [HN.out, HM.out]; omega
  case f2 => omega
  intro v4 w4 ho4 hb4
  have HO4 := Lib.hid ho4
  clear ho4
  go_wp2_with fail
  rw [rounds_succ]
  go_wp2_with fail
  go_ret
  exact ⟨_, rfl, HO4.out, hbb.trans hb4⟩
end Go.Proofs.YtmnhgbkdahdoiaaGreatDoor
