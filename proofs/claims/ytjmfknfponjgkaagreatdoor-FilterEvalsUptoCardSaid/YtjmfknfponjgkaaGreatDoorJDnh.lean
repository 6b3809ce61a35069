/- The walks of 'rest', 'below' and of Under, the program's and the document's. Conditions: as stated. -/
import Derived.BigQuiet
import Derived.Test.YtjmfknfponjgkaaGreatDoorJDnd
import Derived.Test.YtjmfknfponjgkaaGreatDoorJAva
import Derived.Test.YtjmfknfponjgkaaGreatDoorJRug
set_option maxRecDepth 100000
namespace Go.Proofs.YtjmfknfponjgkaaGreatDoor
section
open Go.RowKit
def PartOf (r : Option (List (List UInt8))) (w : World) (e : Ending) (w' : World) : Prop := ∃ v, e = .returned (.tuple #[v, .bool r.isSome]) /\ StrsIn w' v (r.getD []) /\ Below w.heap.size w w'
theorem PartOf.no {r : Option (List (List UInt8))} {w w' : World} (h : r = none) (hb : Below w.heap.size w w') : PartOf r w (.returned (.tuple #[.slice none 0 0, .bool false])) w' := by
 subst h; exact ⟨_, rfl, StrsIn.empty w', hb⟩
theorem PartOf.yes {r : Option (List (List UInt8))} {q : List (List UInt8)} {v : Value} {w w' : World} (h : r = some q) (hv : StrsIn w' v q) (hb : Below w.heap.size w w') : PartOf r w (.returned (.tuple #[v, .bool true])) w' := by
 subst h; exact ⟨_, rfl, hv, hb⟩
theorem Own.plain {w : World} {B : Nat} {v : Value} {xs : List (List UInt8)} (h : Own w B v xs) : (v = .slice none 0 0 /\ xs = []) \/ ∃ g c, v = .slice (some ⟨g, 0, none⟩) xs.length c /\ xs.length <= c := by
 rcases h.2 with ⟨rfl, hn⟩ | ⟨g, cap, cur, rfl, _, _, hn, _⟩
 · exact .inl ⟨rfl, List.eq_nil_of_length_eq_zero hn⟩
 · exact .inr ⟨g, cap, rfl, hn⟩
end
section
open Go.RowKit
theorem value_other {nm v : List UInt8} {t : List UInt8} {sy : Int} (h : RuS.typeOf nm = (t, sy)) (h5 : sy ≠ 5) : DnS.valueS nm v = RuS.normal nm v := by
 unfold DnS.valueS; rw [h, if_neg h5]
theorem value_name {nm v : List UInt8} {t : List UInt8} (h : RuS.typeOf nm = (t, 5)) : DnS.valueS nm v = if (DnS.normN v).2 ≠ 0 \/ (DnS.normN v).1 = [] \/ 200 < v.length then ([], 2) else ((DnS.normN v).1, 0) := by
 rw [DnS.valueS_alt, h, if_pos rfl]
theorem value_name2 {nm v : List UInt8} {t : List UInt8} (h : RuS.typeOf nm = (t, 5)) : DnS.valueS nm v = if v.length < 1 \/ 200 < v.length then ([], 2) else if (DnS.normN v).2 = 0 then ((DnS.normN v).1, 0) else ([], 2) := by
 unfold DnS.valueS; rw [h, if_pos rfl]
theorem NmTxt.mk' {r q : List UInt8 × Int} {w w' : World} (h : r = q) (hb : Below w.heap.size w w') : NmTxt r w (.returned (.tuple #[.string ⟨q.1.toArray⟩, .int .i64 q.2])) w' := by subst h; exact ⟨rfl, hb⟩
theorem dnvalue_c (nm v : List UInt8) (hn : nm.length <= 1048576) (hv : v.length <= 1000000) (w : World) (hE : Env w) : Calls Tryz.prog 53 #[.string ⟨nm.toArray⟩, .string ⟨v.toArray⟩] w (NmTxt (DnS.valueS nm v) w) := by
 have f1 : (⟨nm.toArray⟩ : ByteArray).size <= 9223372036854775807 := by show nm.toArray.size <= _; rw [List.size_toArray]; omega
 have f2 : (⟨v.toArray⟩ : ByteArray).size <= 9223372036854775807 := by show v.toArray.size <= _; rw [List.size_toArray]; omega
 have hty := type_c ⟨nm.toArray⟩ f1 w
 have hnm := fun w hE => rulenormal_c ⟨nm.toArray⟩ ⟨v.toArray⟩ f1 f2 w hE
 have hnn := fun w hE => dnnormal_c v hv w hE
 unfold TypeRet at hty
 unfold NormRet at hnm
 unfold NmTxt at hnn
 simp only at hty hnm
 obtain ⟨T, hT⟩ : ∃ T, RuS.typeOf nm = T := ⟨_, rfl⟩
 rw [hT] at hty
 obtain ⟨t, sy⟩ := T
 have HT := hZ9 hT
 simp only at hty
 clear hT f1 f2
 by_cases h5 : sy = 5
 · subst h5
   have HV := hZ9 (value_name (v := v) HT.out)
   clear hnm
   generalize DnS.normN v = N at *
   obtain ⟨n, e0⟩ := N
   simp only at hnn HV
   by_cases he : e0 = 0
   · subst he
     by_cases hn0 : n = []
     · have HR := hZ9 (HV.out.trans (if_pos (.inr (.inl hn0))))
       have hne : n.isEmpty = true := by rw [hn0]; rfl
       clear HV
       go_enter Tryz.func53, Tryz.ntmps53
       go_wp2_with fail
       refine hty.mono ?_; rintro e w1 ⟨rfl, hb1⟩
       go_wp2_with fail
       refine (hnn _ (hE.below hb1)).mono ?_; rintro e w2 ⟨rfl, hb2⟩
       go_wp2_with fail
       go_ret2
       exact NmTxt.mk' HR.out (below_trans hb1 hb2)
     · have hne : n.isEmpty = false := by simpa using hn0
       by_cases h200 : 200 < v.length
       · have HR := hZ9 (HV.out.trans (if_pos (.inr (.inr h200))))
         have hz : (200 : Int) < (v.length : Int) := by omega
         clear HV
         go_enter Tryz.func53, Tryz.ntmps53
         go_wp2_with fail
         refine hty.mono ?_; rintro e w1 ⟨rfl, hb1⟩
         go_wp2_with fail
         refine (hnn _ (hE.below hb1)).mono ?_; rintro e w2 ⟨rfl, hb2⟩
         go_wp2_with fail
         go_ret2
         exact NmTxt.mk' HR.out (below_trans hb1 hb2)
       · have HR := hZ9 (HV.out.trans (if_neg (fun h => h.elim (fun h => h rfl) (fun h => h.elim hn0 h200))))
         have hz : decide ((200 : Int) < (v.length : Int)) = false := decide_eq_false (by omega)
         clear HV
         go_enter Tryz.func53, Tryz.ntmps53
         go_wp2_with fail
         refine hty.mono ?_; rintro e w1 ⟨rfl, hb1⟩
         go_wp2_with fail
         refine (hnn _ (hE.below hb1)).mono ?_; rintro e w2 ⟨rfl, hb2⟩
         go_wp2_with fail
         go_ret2
         exact NmTxt.mk' HR.out (below_trans hb1 hb2)
   · have HR := hZ9 (HV.out.trans (if_pos (.inl he)))
     have hez : (e0 != 0) = true := by simpa using he
     clear HV
     go_enter Tryz.func53, Tryz.ntmps53
     go_wp2_with fail
     refine hty.mono ?_; rintro e w1 ⟨rfl, hb1⟩
     go_wp2_with fail
     refine (hnn _ (hE.below hb1)).mono ?_; rintro e w2 ⟨rfl, hb2⟩
     go_wp2_with fail
     go_ret2
     exact NmTxt.mk' HR.out (below_trans hb1 hb2)
 · have HR := hZ9 (value_other (v := v) HT.out h5)
   have hez : (sy != 5) = true := by simpa using h5
   generalize RuS.normal nm v = R at *
   obtain ⟨r, e0⟩ := R
   simp only at hnm
   clear hnn
   go_enter Tryz.func53, Tryz.ntmps53
   go_wp2_with fail
   refine hty.mono ?_; rintro e w1 ⟨rfl, hb1⟩
   go_wp2_with fail
   refine (hnm _ (hE.below hb1)).mono ?_; rintro e w2 ⟨rfl, hb2⟩
   go_wp2_with fail
   go_ret2
   exact NmTxt.mk' HR.out (below_trans hb1 hb2)
theorem rnvalue_c (nm v : List UInt8) (hn : nm.length <= 1048576) (hv : v.length <= 1000000) (w : World) (hE : Env w) : Calls Tryz.prog 60 #[.string ⟨nm.toArray⟩, .string ⟨v.toArray⟩] w (NmTxt (DnS.valueS nm v) w) := by
 have f1 : (⟨nm.toArray⟩ : ByteArray).size <= 9223372036854775807 := by show nm.toArray.size <= _; rw [List.size_toArray]; omega
 have f2 : (⟨v.toArray⟩ : ByteArray).size <= 9223372036854775807 := by show v.toArray.size <= _; rw [List.size_toArray]; omega
 have hty := reftype_c ⟨nm.toArray⟩ f1 w
 have hnm := fun w hE => refnormal_c ⟨nm.toArray⟩ ⟨v.toArray⟩ f1 f2 w hE
 have hnn := fun w hE => rnnormal_c v hv w hE
 unfold TypeRet at hty
 unfold NormRet at hnm
 unfold NmTxt at hnn
 simp only at hty hnm
 obtain ⟨T, hT⟩ : ∃ T, RuS.typeOf nm = T := ⟨_, rfl⟩
 rw [hT] at hty
 obtain ⟨t, sy⟩ := T
 have HT := hZ9 hT
 simp only at hty
 clear hT f1 f2
 by_cases h5 : sy = 5
 · subst h5
   have HV := hZ9 (value_name2 (v := v) HT.out)
   clear hnm
   generalize DnS.normN v = N at *
   obtain ⟨n, e0⟩ := N
   simp only at hnn HV
   by_cases h1 : v.length < 1
   · have HR := hZ9 (HV.out.trans (if_pos (.inl h1)))
     have hz : decide ((v.length : Int) < (1 : Int)) = true := decide_eq_true (by omega)
     have hz2 : v.length = 0 := by omega
     have hz3 : v = [] := List.eq_nil_of_length_eq_zero hz2
     clear HV
     subst hz3
     go_enter Tryz.func60, Tryz.ntmps60
     go_wp2_with fail
     refine hty.mono ?_; rintro e w1 ⟨rfl, hb1⟩
     go_wp2_with fail
     go_ret2
     exact NmTxt.mk' HR.out hb1
   · have hz : decide ((v.length : Int) < (1 : Int)) = false := decide_eq_false (by omega)
     have hz3 : (v.length : Int) ≠ 0 := by omega
     have hz4 : 1 <= (v.length : Int) := by omega
     have hz5 : 0 < v.length := by omega
     by_cases h200 : 200 < v.length
     · have HR := hZ9 (HV.out.trans (if_pos (.inr h200)))
       have hz2 : (200 : Int) < (v.length : Int) := by omega
       clear HV
       go_enter Tryz.func60, Tryz.ntmps60
       go_wp2_with fail
       refine hty.mono ?_; rintro e w1 ⟨rfl, hb1⟩
       go_wp2_with fail
       go_ret2
       exact NmTxt.mk' HR.out hb1
     · have hz2 : decide ((200 : Int) < (v.length : Int)) = false := decide_eq_false (by omega)
       have HV2 := hZ9 (HV.out.trans (if_neg (fun h => h.elim h1 h200)))
       clear HV
       by_cases he : e0 = 0
       · subst he
         have HR := hZ9 (HV2.out.trans (if_pos rfl))
         clear HV2
         go_enter Tryz.func60, Tryz.ntmps60
         go_wp2_with fail
         refine hty.mono ?_; rintro e w1 ⟨rfl, hb1⟩
         go_wp2_with fail
         refine (hnn _ (hE.below hb1)).mono ?_; rintro e w2 ⟨rfl, hb2⟩
         go_wp2_with fail
         go_ret2
         exact NmTxt.mk' HR.out (below_trans hb1 hb2)
       · have HR := hZ9 (HV2.out.trans (if_neg he))
         have hez : (e0 != 0) = true := by simpa using he
         clear HV2
         go_enter Tryz.func60, Tryz.ntmps60
         go_wp2_with fail
         refine hty.mono ?_; rintro e w1 ⟨rfl, hb1⟩
         go_wp2_with fail
         refine (hnn _ (hE.below hb1)).mono ?_; rintro e w2 ⟨rfl, hb2⟩
         go_wp2_with fail
         go_ret2
         exact NmTxt.mk' HR.out (below_trans hb1 hb2)
 · have HR := hZ9 (value_other (v := v) HT.out h5)
   have hez : (sy != 5) = true := by simpa using h5
   generalize RuS.normal nm v = R at *
   obtain ⟨r, e0⟩ := R
   simp only at hnm
   clear hnn
   go_enter Tryz.func60, Tryz.ntmps60
   go_wp2_with fail
   refine hty.mono ?_; rintro e w1 ⟨rfl, hb1⟩
   go_wp2_with fail
   refine (hnm _ (hE.below hb1)).mono ?_; rintro e w2 ⟨rfl, hb2⟩
   go_wp2_with fail
   go_ret2
   exact NmTxt.mk' HR.out (below_trans hb1 hb2)
end
end Go.Proofs.YtjmfknfponjgkaaGreatDoor
