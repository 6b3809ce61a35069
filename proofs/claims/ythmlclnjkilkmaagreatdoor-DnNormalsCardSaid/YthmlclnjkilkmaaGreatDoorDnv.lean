/- The walks of a value's normal form, the program's and the document's. Conditions: the texts have at most 1000000 bytes; the library's variables are laid. The walks of Join, and of the document's 'fit'. Conditions: the texts have at most 1000000 bytes; the library's variables are laid. -/
import Derived.Test.YthmlclnjkilkmaaGreatDoorDng
import Derived.Test.YthmlclnjkilkmaaGreatDoorRuh
import Derived.Test.YthmlclnjkilkmaaGreatDoorDnh
namespace Go.Proofs.YthmlclnjkilkmaaGreatDoor
open Go.RowKit

theorem value_other {nm v : List UInt8} {t : List UInt8} {sy : Int} (h : RuS.typeOf nm = (t, sy)) (h5 : sy ≠ 5) : DnS.valueS nm v = RuS.normal nm v := by
  unfold DnS.valueS; rw [h, if_neg h5]
theorem value_name {nm v : List UInt8} {t : List UInt8} (h : RuS.typeOf nm = (t, 5)) : DnS.valueS nm v = if (DnS.normN v).2 ≠ 0 ∨ (DnS.normN v).1 = [] ∨ 200 < v.length then ([], 2) else ((DnS.normN v).1, 0) := by
  rw [DnS.valueS_alt, h, if_pos rfl]
theorem value_name2 {nm v : List UInt8} {t : List UInt8} (h : RuS.typeOf nm = (t, 5)) : DnS.valueS nm v = if v.length < 1 ∨ 200 < v.length then ([], 2) else if (DnS.normN v).2 = 0 then ((DnS.normN v).1, 0) else ([], 2) := by
  unfold DnS.valueS; rw [h, if_pos rfl]
theorem NmTxt.mk' {r q : List UInt8 × Int} {w w' : World} (h : r = q) (hb : Below w.heap.size w w') : NmTxt r w (.returned (.tuple #[.string ⟨q.1.toArray⟩, .int .i64 q.2])) w' := by subst h; exact ⟨rfl, hb⟩

set_option maxRecDepth 100000 in
theorem dnvalue_c (nm v : List UInt8) (hn : nm.length ≤ 1000000) (hv : v.length ≤ 1000000) (w : World) (hE : Env w) : Calls Tryz.prog 36 #[.string ⟨nm.toArray⟩, .string ⟨v.toArray⟩] w (NmTxt (DnS.valueS nm v) w) := by
  have f1 : (⟨nm.toArray⟩ : ByteArray).size ≤ 9223372036854775807 := by show nm.toArray.size ≤ _; rw [List.size_toArray]; omega
  have f2 : (⟨v.toArray⟩ : ByteArray).size ≤ 9223372036854775807 := by show v.toArray.size ≤ _; rw [List.size_toArray]; omega
  have hty := type_c ⟨nm.toArray⟩ f1 w
  have hnm := fun w hE => rulenormal_c ⟨nm.toArray⟩ ⟨v.toArray⟩ f1 f2 w hE
  have hnn := fun w hE => dnnormal_c v hv w hE
  unfold TypeRet at hty
  unfold NormRet at hnm
  unfold NmTxt at hnn
  simp only at hty hnm
  obtain ⟨T, hT⟩ : ∃ T, RuS.typeOf nm = T := ⟨_, rfl⟩
  rw [hT] at hty
  obtain ⟨t, sy⟩ := T
  have HT := Lib.hid hT
  simp only at hty
  clear hT f1 f2
  by_cases h5 : sy = 5
  · subst h5
    have HV := Lib.hid (value_name (v := v) HT.out)
    clear hnm
    generalize DnS.normN v = N at *
    obtain ⟨n, e0⟩ := N
    simp only at hnn HV
    by_cases he : e0 = 0
    · subst he
      by_cases hn0 : n = []
      · have HR := Lib.hid (HV.out.trans (if_pos (.inr (.inl hn0))))
        have hne : n.isEmpty = true := by rw [hn0]; rfl
        clear HV
        go_enter Tryz.func36, Tryz.ntmps36
        go_wp2_with fail
        refine hty.mono ?_; rintro e w1 ⟨rfl, hb1⟩
        go_wp2_with fail
        refine (hnn _ (hE.below hb1)).mono ?_; rintro e w2 ⟨rfl, hb2⟩
        go_wp2_with fail
        go_ret2
        exact NmTxt.mk' HR.out (below_trans hb1 hb2)
      · have hne : n.isEmpty = false := by simpa using hn0
        by_cases h200 : 200 < v.length
        · have HR := Lib.hid (HV.out.trans (if_pos (.inr (.inr h200))))
          have hz : (200 : Int) < (v.length : Int) := by omega
          clear HV
          go_enter Tryz.func36, Tryz.ntmps36
          go_wp2_with fail
          refine hty.mono ?_; rintro e w1 ⟨rfl, hb1⟩
          go_wp2_with fail
          refine (hnn _ (hE.below hb1)).mono ?_; rintro e w2 ⟨rfl, hb2⟩
          go_wp2_with fail
          go_ret2
          exact NmTxt.mk' HR.out (below_trans hb1 hb2)
        · have HR := Lib.hid (HV.out.trans (if_neg (fun h => h.elim (fun h => h rfl) (fun h => h.elim hn0 h200))))
          have hz : decide ((200 : Int) < (v.length : Int)) = false := decide_eq_false (by omega)
          clear HV
          go_enter Tryz.func36, Tryz.ntmps36
          go_wp2_with fail
          refine hty.mono ?_; rintro e w1 ⟨rfl, hb1⟩
          go_wp2_with fail
          refine (hnn _ (hE.below hb1)).mono ?_; rintro e w2 ⟨rfl, hb2⟩
          go_wp2_with fail
          go_ret2
          exact NmTxt.mk' HR.out (below_trans hb1 hb2)
    · have HR := Lib.hid (HV.out.trans (if_pos (.inl he)))
      have hez : (e0 != 0) = true := by simpa using he
      clear HV
      go_enter Tryz.func36, Tryz.ntmps36
      go_wp2_with fail
      refine hty.mono ?_; rintro e w1 ⟨rfl, hb1⟩
      go_wp2_with fail
      refine (hnn _ (hE.below hb1)).mono ?_; rintro e w2 ⟨rfl, hb2⟩
      go_wp2_with fail
      go_ret2
      exact NmTxt.mk' HR.out (below_trans hb1 hb2)
  · have HR := Lib.hid (value_other (v := v) HT.out h5)
    have hez : (sy != 5) = true := by simpa using h5
    generalize RuS.normal nm v = R at *
    obtain ⟨r, e0⟩ := R
    simp only at hnm
    clear hnn
    go_enter Tryz.func36, Tryz.ntmps36
    go_wp2_with fail
    refine hty.mono ?_; rintro e w1 ⟨rfl, hb1⟩
    go_wp2_with fail
    refine (hnm _ (hE.below hb1)).mono ?_; rintro e w2 ⟨rfl, hb2⟩
    go_wp2_with fail
    go_ret2
    exact NmTxt.mk' HR.out (below_trans hb1 hb2)

set_option maxRecDepth 100000 in
theorem rnvalue_c (nm v : List UInt8) (hn : nm.length ≤ 1000000) (hv : v.length ≤ 1000000) (w : World) (hE : Env w) : Calls Tryz.prog 37 #[.string ⟨nm.toArray⟩, .string ⟨v.toArray⟩] w (NmTxt (DnS.valueS nm v) w) := by
  have f1 : (⟨nm.toArray⟩ : ByteArray).size ≤ 9223372036854775807 := by show nm.toArray.size ≤ _; rw [List.size_toArray]; omega
  have f2 : (⟨v.toArray⟩ : ByteArray).size ≤ 9223372036854775807 := by show v.toArray.size ≤ _; rw [List.size_toArray]; omega
  have hty := reftype_c ⟨nm.toArray⟩ f1 w
  have hnm := fun w hE => refnormal_c ⟨nm.toArray⟩ ⟨v.toArray⟩ f1 f2 w hE
  have hnn := fun w hE => rnnormal_c v hv w hE
  unfold TypeRet at hty
  unfold NormRet at hnm
  unfold NmTxt at hnn
  simp only at hty hnm
  obtain ⟨T, hT⟩ : ∃ T, RuS.typeOf nm = T := ⟨_, rfl⟩
  rw [hT] at hty
  obtain ⟨t, sy⟩ := T
  have HT := Lib.hid hT
  simp only at hty
  clear hT f1 f2
  by_cases h5 : sy = 5
  · subst h5
    have HV := Lib.hid (value_name2 (v := v) HT.out)
    clear hnm
    generalize DnS.normN v = N at *
    obtain ⟨n, e0⟩ := N
    simp only at hnn HV
    by_cases h1 : v.length < 1
    · have HR := Lib.hid (HV.out.trans (if_pos (.inl h1)))
      have hz : decide ((v.length : Int) < (1 : Int)) = true := decide_eq_true (by omega)
      have hz2 : v.length = 0 := by omega
      have hz3 : v = [] := List.eq_nil_of_length_eq_zero hz2
      clear HV
      subst hz3
      go_enter Tryz.func37, Tryz.ntmps37
      go_wp2_with fail
      refine hty.mono ?_; rintro e w1 ⟨rfl, hb1⟩
      go_wp2_with fail
      go_ret2
      exact NmTxt.mk' HR.out hb1
    · have hz : decide ((v.length : Int) < (1 : Int)) = false := decide_eq_false (by omega)
      have hz3 : (v.length : Int) ≠ 0 := by omega
      have hz4 : 1 ≤ (v.length : Int) := by omega
      have hz5 : 0 < v.length := by omega
      by_cases h200 : 200 < v.length
      · have HR := Lib.hid (HV.out.trans (if_pos (.inr h200)))
        have hz2 : (200 : Int) < (v.length : Int) := by omega
        clear HV
        go_enter Tryz.func37, Tryz.ntmps37
        go_wp2_with fail
        refine hty.mono ?_; rintro e w1 ⟨rfl, hb1⟩
        go_wp2_with fail
        go_ret2
        exact NmTxt.mk' HR.out hb1
      · have hz2 : decide ((200 : Int) < (v.length : Int)) = false := decide_eq_false (by omega)
        have HV2 := Lib.hid (HV.out.trans (if_neg (fun h => h.elim h1 h200)))
        clear HV
        by_cases he : e0 = 0
        · subst he
          have HR := Lib.hid (HV2.out.trans (if_pos rfl))
          clear HV2
          go_enter Tryz.func37, Tryz.ntmps37
          go_wp2_with fail
          refine hty.mono ?_; rintro e w1 ⟨rfl, hb1⟩
          go_wp2_with fail
          refine (hnn _ (hE.below hb1)).mono ?_; rintro e w2 ⟨rfl, hb2⟩
          go_wp2_with fail
          go_ret2
          exact NmTxt.mk' HR.out (below_trans hb1 hb2)
        · have HR := Lib.hid (HV2.out.trans (if_neg he))
          have hez : (e0 != 0) = true := by simpa using he
          clear HV2
          go_enter Tryz.func37, Tryz.ntmps37
          go_wp2_with fail
          refine hty.mono ?_; rintro e w1 ⟨rfl, hb1⟩
          go_wp2_with fail
          refine (hnn _ (hE.below hb1)).mono ?_; rintro e w2 ⟨rfl, hb2⟩
          go_wp2_with fail
          go_ret2
          exact NmTxt.mk' HR.out (below_trans hb1 hb2)
  · have HR := Lib.hid (value_other (v := v) HT.out h5)
    have hez : (sy != 5) = true := by simpa using h5
    generalize RuS.normal nm v = R at *
    obtain ⟨r, e0⟩ := R
    simp only at hnm
    clear hnn
    go_enter Tryz.func37, Tryz.ntmps37
    go_wp2_with fail
    refine hty.mono ?_; rintro e w1 ⟨rfl, hb1⟩
    go_wp2_with fail
    refine (hnm _ (hE.below hb1)).mono ?_; rintro e w2 ⟨rfl, hb2⟩
    go_wp2_with fail
    go_ret2
    exact NmTxt.mk' HR.out (below_trans hb1 hb2)
end Go.Proofs.YthmlclnjkilkmaaGreatDoor
namespace Go.Proofs.YthmlclnjkilkmaaGreatDoor
open Go.RowKit

theorem Own.built (w : World) (xs : List (List UInt8)) (n : Nat) (hn : xs.length = n) (hm : n ≤ 1000000) : Own (w.alloc (.cells (xs.map strV).toArray 9)) w.heap.size (.slice (some ⟨w.heap.size, 0, none⟩) n n) xs := by
  subst hn
  refine ⟨by simp, .inr ⟨w.heap.size, xs.length, (xs.map strV).toArray, rfl, Nat.le_refl _, ?_, Nat.le_refl _, by unfold maxLen; omega, by simp, by show List.take (xs.length * 1) (xs.map strV) = _; rw [Nat.mul_one, List.take_of_length_le (by simp)]⟩⟩
  show (w.heap.push _)[w.heap.size]? = _
  rw [Array.getElem?_push_size]
theorem join_bound {ts : List (List UInt8)} (h : ∀ t ∈ ts, t.length ≤ 3000) (hn : ts.length ≤ 100) : (DnS.joinS ts).length ≤ 1000000 := by
  have h1 := DnS.join_len ts h
  have : ts.length * (3000 + 1) ≤ 100 * 3001 := Nat.mul_le_mul_right _ hn
  omega
set_option maxRecDepth 100000 in
theorem reffit_c (v : Value) (ts : List (List UInt8)) (w : World) (h : StrsIn w v ts) (hn : ts.length ≤ 100) (hl : ∀ t ∈ ts, t.length ≤ 3000) : Calls Tryz.prog 63 #[v] w (NmTxt (DnS.fitS ts) w) := by
  have hj := joined_c v ts w h hn hl
  have hjb := join_bound hl hn
  obtain ⟨a, c, rfl⟩ := h.form
  have HF : Hid (DnS.fitS ts = if 12 < ts.length ∨ 1000 < (DnS.joinS ts).length then ([], 4) else (DnS.joinS ts, 0)) := Lib.hid rfl
  clear h hl
  generalize DnS.joinS ts = J at *
  generalize DnS.fitS ts = F at *
  generalize ts.length = n at *
  by_cases h12 : 12 < n
  · have hz : (12 : Int) < (n : Int) := by omega
    have HR := Lib.hid (HF.out.trans (if_pos (.inl h12)))
    clear HF
    go_enter Tryz.func63, Tryz.ntmps63
    go_wp2_with fail
    go_ret2
    exact NmTxt.mk' HR.out (Below.refl _ _)
  · have hz : decide ((12 : Int) < (n : Int)) = false := decide_eq_false (by omega)
    by_cases h1000 : 1000 < J.length
    · have hz2 : (1000 : Int) < (J.length : Int) := by omega
      have HR := Lib.hid (HF.out.trans (if_pos (.inr h1000)))
      clear HF
      go_enter Tryz.func63, Tryz.ntmps63
      go_wp2_with fail
      refine hj.mono ?_; rintro e w1 ⟨rfl, rfl⟩
      go_wp2_with fail
      go_ret2
      exact NmTxt.mk' HR.out (Below.refl _ _)
    · have hz2 : decide ((1000 : Int) < (J.length : Int)) = false := decide_eq_false (by omega)
      have HR := Lib.hid (HF.out.trans (if_neg (fun h => h.elim h12 h1000)))
      clear HF
      go_enter Tryz.func63, Tryz.ntmps63
      go_wp2_with fail
      refine hj.mono ?_; rintro e w1 ⟨rfl, rfl⟩
      go_wp2_with fail
      refine hj.mono ?_; rintro e w2 ⟨rfl, rfl⟩
      go_wp2_with fail
      go_ret2
      exact NmTxt.mk' HR.out (Below.refl _ _)
theorem join_bad {p q : List UInt8} (h : (RdS.partS p).2 ≠ 0) : DnS.joinNS p q = ([], 2) := by unfold DnS.joinNS; rw [if_neg h]
theorem join_bad2 {p q : List UInt8} {l : List RdS.Pr} {ts : List (List UInt8)} {e : Int} (h : RdS.partS p = (l, 0)) (k : DnS.textsS q = (ts, e)) (he : e ≠ 0) : DnS.joinNS p q = ([], e) := by unfold DnS.joinNS; rw [h, k, if_pos rfl, if_neg he]
theorem join_good {p q : List UInt8} {l : List RdS.Pr} {ts : List (List UInt8)} (h : RdS.partS p = (l, 0)) (k : DnS.textsS q = (ts, 0)) : DnS.joinNS p q = DnS.fitS (DnS.ntext l :: ts) := by unfold DnS.joinNS; rw [h, k, if_pos rfl, if_pos rfl]
theorem join_all {l : List RdS.Pr} {ts : List (List UInt8)} (h : RdS.formedS l = true) (k : ∀ t ∈ ts, t.length ≤ 3000) : ∀ t ∈ DnS.ntext l :: ts, t.length ≤ 3000 := fun t ht => by
  rcases List.mem_cons.1 ht with rfl | ht
  · exact DnS.ntext_small h
  · exact k t ht


set_option maxRecDepth 100000 in
set_option maxHeartbeats 1000000 in
theorem dnjoin_c (a b : List UInt8) (ha : a.length ≤ 100000) (hb0 : b.length ≤ 1000000) (w : World) (hE : Env w) : Calls Tryz.prog 24 #[.string ⟨a.toArray⟩, .string ⟨b.toArray⟩] w (NmTxt (DnS.joinNS a b) w) := by
  have hpp := rdparse_f a ha w hE
  unfold PartRetF at hpp
  have hq := fun w hE => dnparts_c b hb0 w hE
  unfold PartsRet at hq
  have hpn := RdS.part_none (s := a)
  have hla := (DnS.texts_len b).1
  have HEA := Lib.hid (DnS.texts_each (s := b))
  have HBAD := Lib.hid (join_bad (p := a) (q := b))
  obtain ⟨P, hP⟩ : ∃ P, RdS.partS a = P := ⟨_, rfl⟩
  obtain ⟨Y, hY⟩ : ∃ Y, DnS.textsS b = Y := ⟨_, rfl⟩
  rw [hP] at hpp hpn HBAD
  rw [hY] at hq hla HEA
  obtain ⟨xs, e0⟩ := P
  obtain ⟨ty, ey⟩ := Y
  simp only at hpp hpn hq hla HBAD HEA
  have HP := Lib.hid hP
  have HY := Lib.hid hY
  clear hP hY
  by_cases he : e0 = 0
  · subst he
    clear hpn HBAD
    have hfx : RdS.formedS xs = true := RdS.part_formed HP.out
    have HBAD := Lib.hid (fun (he : ey ≠ 0) => join_bad2 HP.out HY.out he)
    have HGOOD := Lib.hid (fun (he : ey = 0) => join_good HP.out (by rw [HY.out, he]))
    have HALL := Lib.hid (join_all hfx HEA.out)
    have hjb := join_bound HALL.out (by simp; omega)
    have HJ := Lib.hid hjb
    have hnp := fun w v h hE => rdnormal_c v xs w h (fit_small hfx) hE
    unfold NormRetP at hnp
    rw [DnS.normP_formed hfx] at hnp
    have hpr := fun v w h hE => rdprint_c v (RdS.normL xs) w h (fit_small (RdS.norm_formed hfx).1) hE
    unfold PrintRet at hpr
    rw [DnS.printS_norm hfx] at hpr
    simp only at hnp hpr
    generalize RdS.normL xs = qn at *
    generalize DnS.ntext xs = t at *
    clear hfx hjb
    go_enter Tryz.func24, Tryz.ntmps24
    go_wp2_with fail
    refine hpp.mono ?_; rintro e w1 ⟨v, rfl, hav, hb1, -⟩
    have hE1 := hE.below hb1
    obtain ⟨a1, n1, c1, rfl⟩ : ∃ a1 n1 c1, v = .slice a1 n1 c1 := by
      obtain ⟨a1, c1, e, _⟩ := hav
      exact ⟨a1, _, c1, e⟩
    go_wp2_with fail
    refine (hnp _ _ hav hE1).mono ?_; rintro e w2 ⟨v1, rfl, hav1, hb2⟩
    obtain ⟨a2, n2, c2, rfl⟩ : ∃ a2 n2 c2, v1 = .slice a2 n2 c2 := by
      obtain ⟨a1, c1, e, _⟩ := hav1
      exact ⟨a1, _, c1, e⟩
    have hE2 := hE1.below hb2
    go_wp2_with fail
    refine (hpr _ _ hav1 hE2).mono ?_; rintro e w3 ⟨rfl, hb3⟩
    have hE3 := hE2.below hb3
    go_wp2_with fail
    refine (hq _ hE3).mono ?_; rintro e w4 ⟨vt, rfl, hoy, hb4⟩
    have hbb := below_trans (below_trans (below_trans hb1 hb2) hb3) hb4
    by_cases hey : ey = 0
    · subst hey
      have HR := Lib.hid (HGOOD.out rfl)
      clear HGOOD HBAD
      have hown := Own.built w4 [t] 1 rfl (by omega)
      have hoy' := (hoy.alloc (.cells ([t].map strV).toArray 9)).strs
      have HOWN := Lib.hid hown
      have HOY := Lib.hid hoy'
      clear hown hoy' hoy
      go_wp2_with (at_builtin; refine push_strs (by rfl) _ _ (by rfl) w4.heap.size _ [t] (by rfl) HOWN.out _ ty (by rfl) HOY.out ?e1 ?e2 ?_)
      case e1 => simp; omega
      case e2 => simp
      intro v' w6 hown4 hb6
      go_wp2_with fail
      refine (fit_c _ _ _ hown4.strs (by simp; omega) (by have := HJ.out; omega)).mono ?_; rintro e w5 ⟨rfl, hb5⟩
      go_wp2_with fail
      go_ret2
      exact ⟨by rw [HR.out]; rfl, (hbb.trans (((grow1 w4 _).trans hb6).mono hbb.size)).trans (hb5.mono (by have := hb6.size; have h2 := hbb.size; simp at this; omega))⟩
    · have HR := Lib.hid (HBAD.out hey)
      have hez : (ey != 0) = true := by simpa using hey
      clear HGOOD HBAD
      go_wp2_with fail
      go_ret2
      exact NmTxt.mk' HR.out hbb
  · have HR := Lib.hid (HBAD.out he)
    have h2 := hpn he
    rw [Prod.mk.injEq] at h2
    obtain ⟨rfl, rfl⟩ := h2
    clear hpn HBAD he
    go_enter Tryz.func24, Tryz.ntmps24
    go_wp2_with fail
    refine hpp.mono ?_; rintro e w1 ⟨v, rfl, hav, hb1, -⟩
    go_wp2_with fail
    go_ret2
    exact NmTxt.mk' HR.out hb1

set_option maxRecDepth 100000 in
set_option maxHeartbeats 1000000 in
theorem rnjoin_c (a b : List UInt8) (ha : a.length ≤ 100000) (hb0 : b.length ≤ 1000000) (w : World) (hE : Env w) : Calls Tryz.prog 25 #[.string ⟨a.toArray⟩, .string ⟨b.toArray⟩] w (NmTxt (DnS.joinNS a b) w) := by
  have hpp := refpart_f a ha w hE
  unfold PartRetF at hpp
  have hq := fun w hE => refparts_c b hb0 w hE
  unfold PartsRet at hq
  have hpn := RdS.part_none (s := a)
  have hla := (DnS.texts_len b).1
  have HEA := Lib.hid (DnS.texts_each (s := b))
  have HBAD := Lib.hid (join_bad (p := a) (q := b))
  obtain ⟨P, hP⟩ : ∃ P, RdS.partS a = P := ⟨_, rfl⟩
  obtain ⟨Y, hY⟩ : ∃ Y, DnS.textsS b = Y := ⟨_, rfl⟩
  rw [hP] at hpp hpn HBAD
  rw [hY] at hq hla HEA
  obtain ⟨xs, e0⟩ := P
  obtain ⟨ty, ey⟩ := Y
  simp only at hpp hpn hq hla HBAD HEA
  have HP := Lib.hid hP
  have HY := Lib.hid hY
  clear hP hY
  by_cases he : e0 = 0
  · subst he
    clear hpn HBAD
    have hfx : RdS.formedS xs = true := RdS.part_formed HP.out
    have HBAD := Lib.hid (fun (he : ey ≠ 0) => join_bad2 HP.out HY.out he)
    have HGOOD := Lib.hid (fun (he : ey = 0) => join_good HP.out (by rw [HY.out, he]))
    have HALL := Lib.hid (join_all hfx HEA.out)
    have hjb := join_bound HALL.out (by simp; omega)
    have HJ := Lib.hid hjb
    have hnp := fun w v h hE => refnormpart_c v xs w h (fit_small hfx) hE
    unfold NormRetP at hnp
    rw [DnS.normP_formed hfx] at hnp
    have hpr := fun v w h hE => refprint_c v (RdS.normL xs) w h (fit_small (RdS.norm_formed hfx).1) hE
    unfold PrintRet at hpr
    rw [DnS.printS_norm hfx] at hpr
    simp only at hnp hpr
    generalize RdS.normL xs = qn at *
    generalize DnS.ntext xs = t at *
    clear hfx hjb
    go_enter Tryz.func25, Tryz.ntmps25
    go_wp2_with fail
    refine hpp.mono ?_; rintro e w1 ⟨v, rfl, hav, hb1, -⟩
    have hE1 := hE.below hb1
    obtain ⟨a1, n1, c1, rfl⟩ : ∃ a1 n1 c1, v = .slice a1 n1 c1 := by
      obtain ⟨a1, c1, e, _⟩ := hav
      exact ⟨a1, _, c1, e⟩
    go_wp2_with fail
    refine (hq _ hE1).mono ?_; rintro e w2 ⟨vt, rfl, hoy, hb2⟩
    have hbb := below_trans hb1 hb2
    have hE2 := hE1.below hb2
    by_cases hey : ey = 0
    · subst hey
      have HR := Lib.hid (HGOOD.out rfl)
      clear HGOOD HBAD
      have hav2 := hav.call hb2 (Nat.le_refl _)
      go_wp2_with fail
      refine (hnp _ _ hav2 hE2).mono ?_; rintro e w3 ⟨v1, rfl, hav1, hb3⟩
      obtain ⟨a2, n2, c2, rfl⟩ : ∃ a2 n2 c2, v1 = .slice a2 n2 c2 := by
        obtain ⟨a1, c1, e, _⟩ := hav1
        exact ⟨a1, _, c1, e⟩
      have hE3 := hE2.below hb3
      go_wp2_with fail
      refine (hpr _ _ hav1 hE3).mono ?_; rintro e w4 ⟨rfl, hb4⟩
      have hbb2 := below_trans (below_trans hbb hb3) hb4
      have hown := Own.built w4 [t] 1 rfl (by omega)
      have hoy' := (((hoy.call hb3).call hb4).alloc (.cells ([t].map strV).toArray 9)).strs
      have HOWN := Lib.hid hown
      have HOY := Lib.hid hoy'
      clear hown hoy' hoy
      go_wp2_with (at_builtin; refine push_strs (by rfl) _ _ (by rfl) w4.heap.size _ [t] (by rfl) HOWN.out _ ty (by rfl) HOY.out ?e1 ?e2 ?_)
      case e1 => simp; omega
      case e2 => simp
      intro v' w6 hown4 hb6
      go_wp2_with fail
      refine (reffit_c _ _ _ hown4.strs (by simp; omega) HALL.out).mono ?_; rintro e w5 ⟨rfl, hb5⟩
      go_wp2_with fail
      go_ret2
      exact ⟨by rw [HR.out]; rfl, (hbb2.trans (((grow1 w4 _).trans hb6).mono hbb2.size)).trans (hb5.mono (by have := hb6.size; have h2 := hbb2.size; simp at this; omega))⟩
    · have HR := Lib.hid (HBAD.out hey)
      have hez : (ey != 0) = true := by simpa using hey
      clear HGOOD HBAD
      go_wp2_with fail
      go_ret2
      exact NmTxt.mk' HR.out hbb
  · have HR := Lib.hid (HBAD.out he)
    have h2 := hpn he
    rw [Prod.mk.injEq] at h2
    obtain ⟨rfl, rfl⟩ := h2
    clear hpn HBAD he
    go_enter Tryz.func25, Tryz.ntmps25
    go_wp2_with fail
    refine hpp.mono ?_; rintro e w1 ⟨v, rfl, hav, hb1, -⟩
    go_wp2_with fail
    go_ret2
    exact NmTxt.mk' HR.out hb1
end Go.Proofs.YthmlclnjkilkmaaGreatDoor
