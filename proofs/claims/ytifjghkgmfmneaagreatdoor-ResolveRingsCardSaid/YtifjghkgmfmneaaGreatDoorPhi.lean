/- The walks of the program's reader of a number's text. Condition: a text's length is below 2^48. -/
import Derived.Test.YtifjghkgmfmneaaGreatDoorPhg
import Derived.Test.YtifjghkgmfmneaaGreatDoorPha
import Derived.Lib.ParseIntBTie
import Derived.Deep.DeepCutAuto
namespace Go.Proofs.YtifjghkgmfmneaaGreatDoor
open Go.RowKit

theorem readS_le (l : List UInt8) : (PhS.readS l).1.natAbs ≤ 2147483648 := by
  unfold PhS.readS
  split
  · rename_i v hv
    have := Lib.parseIntB_bounds hv
    simp only
    have e : ((2 ^ (32 - 1) : Nat) : Int) = 2147483648 := by decide
    rw [e] at this
    omega
  · unfold Lib.intSat
    simp only
    split <;> decide
  · decide
theorem okB_big {n : Int} (h : n.natAbs < 2 ^ 53) (h1 : 1000000 < n.natAbs) : okB (Fl.D n) = false := by
  unfold okB Fl.numOf
  rw [Fl.toInt_val (Fl.read_D n h).val]
  simp only
  rw [if_neg (by omega)]
  rfl

def ReadRet (l : List UInt8) (w : World) (e : Ending) (w' : World) : Prop := e = .returned (.tuple #[.float .f64 (Fl.D (PhS.readS l).1), .bool (PhS.readS l).2]) ∧ Below w.heap.size w w'

set_option maxRecDepth 100000 in
theorem read_c (s : ByteArray) (hs : s.size ≤ 281474976710656) (w : World) (hE : Env w) :
    Calls Tryz.prog 262 #[.string s] w (ReadRet s.data.toList w) := by
  have hle := readS_le s.data.toList
  have eD : floatOfInt .f64 (PhS.readS s.data.toList).1 = Fl.D (PhS.readS s.data.toList).1 := Fl.D_eq _ (by omega)
  have HD := Lib.hid eD
  clear eD
  cases hr : (PhS.readS s.data.toList).2 with
  | true =>
    have hcon := parseInt32_ok s hs hr
    have HR := Lib.hid hr
    clear hr
    generalize hn : (PhS.readS s.data.toList).1 = n at *
    have HN := Lib.hid hn
    clear hn
    go_enter Tryz.func262, Tryz.ntmps262
    go_wp2_with fail
    refine (hcon _).mono ?_
    rintro e w1 ⟨rfl, hb⟩
    go_wp2_with fail
    go_quiet (fail)
    go_wp2_with fail
    go_ret2
    exact ⟨by rw [HN.out, HR.out]; first | rfl | (rw [← HD.out]; rfl), below_trans hb (below_drewN _ _)⟩
  | false =>
    have hcon := parseInt32_no s hs hr
    have HR := Lib.hid hr
    clear hr
    generalize hn : (PhS.readS s.data.toList).1 = n at *
    have HN := Lib.hid hn
    clear hn
    go_enter Tryz.func262, Tryz.ntmps262
    go_wp2_with fail
    refine (hcon _ hE).mono ?_
    rintro e w1 ⟨N, rfl, hb⟩
    go_wp2_with fail
    go_quiet (fail)
    go_wp2_with fail
    go_ret2
    exact ⟨by rw [HN.out, HR.out]; first | rfl | (rw [← HD.out]; rfl), below_trans hb (below_drewN _ _)⟩

theorem getLast_hasSuffix (l : List UInt8) (h : l.getLast? = some 105) : Lib.hasSuffix l [105] = true ∧ Lib.trimSuffix l [105] = l.dropLast := by
  obtain ⟨r, rfl⟩ := List.getLast?_eq_some_iff.1 h
  have h1 : Lib.hasSuffix (r ++ [105]) [105] = true := by
    unfold Lib.hasSuffix
    simp
  refine ⟨h1, ?_⟩
  unfold Lib.trimSuffix
  rw [if_pos h1]
  simp
theorem getLast_noSuffix (l : List UInt8) (h : l.getLast? ≠ some 105) : Lib.hasSuffix l [105] = false ∧ Lib.trimSuffix l [105] = l := by
  have h1 : Lib.hasSuffix l [105] = false := by
    cases hh : Lib.hasSuffix l [105] with
    | false => rfl
    | true =>
      exfalso
      apply h
      unfold Lib.hasSuffix at hh
      obtain ⟨r, rfl⟩ := List.isSuffixOf_iff_suffix.1 hh
      simp
  refine ⟨h1, ?_⟩
  unfold Lib.trimSuffix
  rw [if_neg (by rw [h1]; decide)]

theorem first_len (l : List UInt8) : (PhS.firstOf l).length ≤ l.length + 1 := by
  unfold PhS.firstOf
  split
  · split
    · simp
    · simp; omega
  · omega
theorem second_len (l : List UInt8) : (PhS.secondOf l).length ≤ l.length + 2 := by
  unfold PhS.secondOf PhS.bareSecond
  split
  · split
    · simp; omega
    · simp; omega
  · simp
theorem suffix_cases (l : List UInt8) : (Lib.hasSuffix l [105] = true → l.getLast? = some 105 ∧ Lib.trimSuffix l [105] = l.dropLast) ∧ (Lib.hasSuffix l [105] = false → l.getLast? ≠ some 105 ∧ Lib.trimSuffix l [105] = l) := by
  by_cases h : l.getLast? = some 105
  · obtain ⟨g1, g2⟩ := getLast_hasSuffix l h
    exact ⟨fun _ => ⟨h, g2⟩, fun hh => absurd (g1.symm.trans hh) (by decide)⟩
  · obtain ⟨g1, g2⟩ := getLast_noSuffix l h
    exact ⟨fun hh => absurd (g1.symm.trans hh) (by decide), fun _ => ⟨h, g2⟩⟩
theorem str_cases (B : ByteArray) : B.toList.isEmpty = true ∨ (B.toList.isEmpty = false ∧ (B.toList == [43]) = true) ∨ (B.toList.isEmpty = false ∧ (B.toList == [43]) = false ∧ (B.toList == [45]) = true) ∨ (B.toList.isEmpty = false ∧ (B.toList == [43]) = false ∧ (B.toList == [45]) = false) := by
  cases h0 : B.toList.isEmpty with
  | true => exact .inl rfl
  | false =>
    cases h1 : (B.toList == [43]) with
    | true => exact .inr (.inl ⟨rfl, rfl⟩)
    | false =>
      cases h2 : (B.toList == [45]) with
      | true => exact .inr (.inr (.inl ⟨rfl, rfl, rfl⟩))
      | false => exact .inr (.inr (.inr ⟨rfl, rfl, rfl⟩))
theorem mk_list {A : ByteArray} {l : List UInt8} (h : A = ⟨l.toArray⟩) : A.toList = l := by rw [Lib.toList_data, h]
theorem first_yes {A : ByteArray} {l : List UInt8} (h : A = ⟨l.toArray⟩) (h0 : A.toList.isEmpty = true) : (if l = [] then [48] else l) = [48] := by
  rw [mk_list h] at h0
  rw [if_pos (List.isEmpty_iff.1 h0)]
theorem first_no {A : ByteArray} {l : List UInt8} (h : A = ⟨l.toArray⟩) (h0 : A.toList.isEmpty = false) : (⟨(if l = [] then [48] else l).toArray⟩ : ByteArray) = A := by
  rw [mk_list h] at h0
  rw [if_neg (by intro hh; subst hh; cases h0), h]
theorem second_1 {B : ByteArray} {l : List UInt8} (h : B = ⟨l.toArray⟩) (h0 : B.toList.isEmpty = true) : Value.string (B ++ ⟨#[49]⟩) = Value.string ⟨(if l = [] ∨ l = [43] ∨ l = [45] then l ++ [49] else l).toArray⟩ := by
  rw [mk_list h] at h0
  rw [if_pos (.inl (List.isEmpty_iff.1 h0)), h, ← mk_append]
theorem second_2 {B : ByteArray} {l : List UInt8} (h : B = ⟨l.toArray⟩) (h0 : (B.toList == [43]) = true) : Value.string (B ++ ⟨#[49]⟩) = Value.string ⟨(if l = [] ∨ l = [43] ∨ l = [45] then l ++ [49] else l).toArray⟩ := by
  rw [mk_list h] at h0
  rw [if_pos (.inr (.inl (beq_iff_eq.1 h0))), h, ← mk_append]
theorem second_3 {B : ByteArray} {l : List UInt8} (h : B = ⟨l.toArray⟩) (h0 : (B.toList == [45]) = true) : Value.string (B ++ ⟨#[49]⟩) = Value.string ⟨(if l = [] ∨ l = [43] ∨ l = [45] then l ++ [49] else l).toArray⟩ := by
  rw [mk_list h] at h0
  rw [if_pos (.inr (.inr (beq_iff_eq.1 h0))), h, ← mk_append]
theorem second_4 {B : ByteArray} {l : List UInt8} (h : B = ⟨l.toArray⟩) (h0 : B.toList.isEmpty = false) (h1 : (B.toList == [43]) = false) (h2 : (B.toList == [45]) = false) : Value.string B = Value.string ⟨(if l = [] ∨ l = [43] ∨ l = [45] then l ++ [49] else l).toArray⟩ := by
  rw [mk_list h] at h0 h1 h2
  rw [if_neg, h]
  rintro (hh | hh | hh)
  · subst hh; cases h0
  · exact beq_eq_false_iff_ne.1 h1 hh
  · exact beq_eq_false_iff_ne.1 h2 hh
def ParseCut (l : List UInt8) (w : World) (a b : Value) (wc : World) : Prop :=
  a = .string ⟨(PhS.firstOf l).toArray⟩ ∧ b = .string ⟨(PhS.secondOf l).toArray⟩ ∧ Below w.heap.size w wc

def ParseP (l : List UInt8) (w : World) (e : Ending) (w' : World) : Prop :=
  e = .returned (match PhS.parseP l with
    | some (a, b) => .tuple #[.complex .f64 (Fl.D a) (Fl.D b), .int .i64 0]
    | none => .tuple #[.complex .f64 0 0, .int .i64 2]) ∧ Below w.heap.size w w'

set_option maxRecDepth 100000 in
theorem parse_c (s : ByteArray) (hs : s.size + 2 ≤ 281474976710656) (w : World) (hE : Env w) :
    Calls Tryz.prog 220 #[.string s] w (ParseP s.data.toList w) := by
  have hcon := fun w => Tryz.strings_CutSuffix s ⟨#[105]⟩ w (by omega)
  go_enter Tryz.func220, Tryz.ntmps220
  go_wp2_with fail
  refine (hcon _).mono ?_
  rintro e w1 ⟨rfl, hw1⟩
  subst hw1
  clear hcon
  have hcase := suffix_cases s.data.toList
  have HCASE := Lib.hid hcase
  clear hcase
  generalize Lib.trimSuffix s.data.toList (ByteArray.mk #[105]).data.toList = t at *
  generalize Lib.hasSuffix s.data.toList (ByteArray.mk #[105]).data.toList = q at *
  go_upto_if 22 with fail
  go_cut [4, 5] (fun a b wc => ParseCut s.data.toList w1 a b wc)
  case first =>
    cases q with
    | true =>
      have HT := Lib.hid (HCASE.out.1 rfl)
      clear HCASE
      have htl : (⟨t.toArray⟩ : ByteArray).size ≤ 281474976710656 := by
        have h3 : t.length = s.data.toList.length - 1 := by rw [HT.out.2, List.length_dropLast]
        have h4 := Lib.size_eq s
        show t.length ≤ _
        omega
      have hli := fun w hE => lastIndexAny ⟨t.toArray⟩ htl w hE
      have hv1 := PhS.lastW_ge PhS.isSign t
      have hv2 := PhS.lastW_lt PhS.isSign t
      have hsz : (⟨t.toArray⟩ : ByteArray).size = t.length := rfl
      rw [← hsz] at hv2
      have HC : Hid (PhS.cutAt s.data.toList = (max (PhS.lastW PhS.isSign t) 0).toNat) := Lib.hid (by unfold PhS.cutAt; rw [if_pos HT.out.1, ← HT.out.2])
      unfold LiaRet at hli
      obtain ⟨m, hm⟩ : ∃ m : Nat, max (PhS.lastW PhS.isSign t) 0 = (m : Int) := ⟨(max (PhS.lastW PhS.isSign t) 0).toNat, by omega⟩
      generalize PhS.lastW PhS.isSign t = v at *
      have HSZ := Lib.hid hsz
      clear hsz
      go_wp2_with fail
      refine (hli _ hE).mono ?_
      rintro e w2 ⟨rfl, hb2⟩
      go_wp2_with fail
      have hmle : m ≤ (⟨t.toArray⟩ : ByteArray).size := by omega
      go_quiet (fail)
      have hlenT : t.length = (⟨t.toArray⟩ : ByteArray).size := rfl
      have hAl : ((⟨t.toArray⟩ : ByteArray).extract 0 m) = ⟨(t.take m).toArray⟩ := by
        apply ByteArray.ext; simp
      have hBl : ((⟨t.toArray⟩ : ByteArray).extract m t.length) = ⟨(t.drop m).toArray⟩ := by
        apply ByteArray.ext; simp; exact List.take_of_length_le (by simp)
      have hF : PhS.firstOf s.data.toList = if t.take m = [] then [48] else t.take m := by
        unfold PhS.firstOf
        rw [HC.out, ← HT.out.2, if_pos HT.out.1, hm]; rfl
      have hG : PhS.secondOf s.data.toList = if t.drop m = [] ∨ t.drop m = [43] ∨ t.drop m = [45] then t.drop m ++ [49] else t.drop m := by
        unfold PhS.secondOf PhS.bareSecond
        rw [HC.out, ← HT.out.2, if_pos HT.out.1, hm]; rfl
      have hBs : ((⟨t.toArray⟩ : ByteArray).extract m t.length).size ≤ 281474976710656 := by rw [ByteArray.size_extract]; omega
      have HF := Lib.hid hF
      have HG := Lib.hid hG
      clear hF hG
      generalize (⟨t.toArray⟩ : ByteArray).extract 0 m = A at *
      generalize (⟨t.toArray⟩ : ByteArray).extract m t.length = B at *
      have HA := Lib.hid hAl
      have HB := Lib.hid hBl
      clear hAl hBl hlenT
      by_cases a0 : A.toList.isEmpty = true
      · have a1 := List.isEmpty_iff.1 a0
        rcases str_cases B with b0 | ⟨b0, b1⟩ | ⟨b0, b1, b2⟩ | ⟨b0, b1, b2⟩
        all_goals
          go_wp2_with fail
          go_meet
          refine ⟨by rw [HF.out, first_yes HA.out a0], ?_, below_trans hb2 (below_drewN _ _)⟩
          rw [HG.out]
          first
            | exact second_1 HB.out b0
            | exact second_2 HB.out b1
            | exact second_3 HB.out b2
            | exact second_4 HB.out b0 b1 b2
      · have a1 : A.toList.isEmpty = false := by simpa using a0
        rcases str_cases B with b0 | ⟨b0, b1⟩ | ⟨b0, b1, b2⟩ | ⟨b0, b1, b2⟩
        all_goals
          go_wp2_with fail
          go_meet
          refine ⟨by rw [HF.out, first_no HA.out a1], ?_, below_trans hb2 (below_drewN _ _)⟩
          rw [HG.out]
          first
            | exact second_1 HB.out b0
            | exact second_2 HB.out b1
            | exact second_3 HB.out b2
            | exact second_4 HB.out b0 b1 b2
    | false =>
      have HT := Lib.hid (HCASE.out.2 rfl)
      clear HCASE
      have HF : Hid (PhS.firstOf s.data.toList = s.data.toList) := Lib.hid (by unfold PhS.firstOf; rw [if_neg HT.out.1])
      have HG : Hid (PhS.secondOf s.data.toList = [48]) := Lib.hid (by unfold PhS.secondOf; rw [if_neg HT.out.1])
      go_wp2_with fail
      go_meet
      exact ⟨by rw [HF.out], by rw [HG.out], Below.refl _ _⟩
  case rest =>
    obtain ⟨rfl, rfl, hb⟩ := hcut
    have h1 := first_len s.data.toList
    have h2 := second_len s.data.toList
    clear HCASE
    have HP : Hid (PhS.parseP s.data.toList = if (PhS.readS (PhS.firstOf s.data.toList)).2 ∧ (PhS.readS (PhS.secondOf s.data.toList)).2 ∧ PhS.inR (PhS.readS (PhS.firstOf s.data.toList)).1 (PhS.readS (PhS.secondOf s.data.toList)).1 = true ∧ PhS.text (PhS.readS (PhS.firstOf s.data.toList)).1 (PhS.readS (PhS.secondOf s.data.toList)).1 = s.data.toList
        then some ((PhS.readS (PhS.firstOf s.data.toList)).1, (PhS.readS (PhS.secondOf s.data.toList)).1) else none) := Lib.hid rfl
    have hsl := Lib.size_eq s
    by_cases hbig : s.data.toList.length + 2 ≤ 281474976710656
    · have r1 := fun w hE => read_c ⟨(PhS.firstOf s.data.toList).toArray⟩ (Nat.le_trans h1 (by omega)) w hE
      have r2 := fun w hE => read_c ⟨(PhS.secondOf s.data.toList).toArray⟩ (Nat.le_trans h2 (by omega)) w hE
      unfold ReadRet at r1 r2
      have g1 := readS_le (PhS.firstOf s.data.toList)
      have g2 := readS_le (PhS.secondOf s.data.toList)
      simp only at r1 r2
      generalize PhS.readS (PhS.firstOf s.data.toList) = p1 at *
      generalize PhS.readS (PhS.secondOf s.data.toList) = p2 at *
      obtain ⟨n, o1⟩ := p1
      obtain ⟨m, o2⟩ := p2
      simp only at r1 r2 g1 g2 HP
      clear hsl h1 h2
      go_wp2_with fail
      refine (r1 _ (hE.below hb)).mono ?_
      rintro e w3 ⟨rfl, hb3⟩
      go_wp2_with fail
      refine (r2 _ ((hE.below hb).below hb3)).mono ?_
      rintro e w4 ⟨rfl, hb4⟩
      go_wp2_with fail
      have hb5 := below_trans hb (below_trans hb3 hb4)
      cases hin : PhS.inR n m with
      | true =>
        have HIN := Lib.hid hin
        refine (print_yes n m hin _ (hE.below hb5)).mono ?_
        rintro e w5 ⟨rfl, hb6⟩
        clear hin r1 r2
        cases o1 with
        | false =>
          go_wp2_with fail
          go_ret2
          exact ⟨by rw [HP.out, if_neg (by simp)]; rfl, below_trans hb5 hb6⟩
        | true =>
          cases o2 with
          | false =>
            go_wp2_with fail
            go_ret2
            exact ⟨by rw [HP.out, if_neg (by simp)]; rfl, below_trans hb5 hb6⟩
          | true =>
            by_cases ht : (PhS.text n m == s.toList) = true
            · have HT : Hid (PhS.text n m = s.data.toList) := Lib.hid (by rw [beq_iff_eq.1 ht, Lib.toList_data])
              go_wp2_with fail
              go_ret2
              exact ⟨by rw [HP.out, if_pos ⟨trivial, trivial, HIN.out, HT.out⟩]; rfl, below_trans hb5 hb6⟩
            · have HT : Hid (¬ PhS.text n m = s.data.toList) := Lib.hid (by rw [← Lib.toList_data]; intro hh; exact ht (beq_iff_eq.2 hh))
              have ht' : (PhS.text n m == s.toList) = false := by simpa using ht
              clear ht
              go_wp2_with fail
              go_ret2
              exact ⟨by rw [HP.out, if_neg (fun h => HT.out h.2.2.2)]; rfl, below_trans hb5 hb6⟩
      | false =>
        have HIN := Lib.hid hin
        have hno : (okB (Fl.D n) && okB (Fl.D m)) = false := by
          unfold PhS.inR at hin
          have hin' := of_decide_eq_false hin
          by_cases h6 : n.natAbs ≤ 1000000
          · rw [okB_big (n := m) (by omega) (by omega), Bool.and_false]
          · rw [okB_big (n := n) (by omega) (by omega), Bool.false_and]
        have HN : Hid (PhS.parseP s.data.toList = none) := Lib.hid (by rw [HP.out, if_neg (fun h => by have := h.2.2.1; rw [HIN.out] at this; cases this)])
        refine (print_no _ _ (wd_D (by omega)) (wd_D (by omega)) hno _).mono ?_
        rintro e w5 ⟨rfl, hb6⟩
        clear hin r1 r2 hno
        cases o1 with
        | false =>
          go_wp2_with fail
          go_ret2
          exact ⟨by rw [HN.out]; rfl, below_trans hb5 hb6⟩
        | true =>
          cases o2 with
          | false =>
            go_wp2_with fail
            go_ret2
            exact ⟨by rw [HN.out]; rfl, below_trans hb5 hb6⟩
          | true =>
            go_wp2_with fail
            go_ret2
            exact ⟨by rw [HN.out]; rfl, below_trans hb5 hb6⟩
    · exact absurd hs (by omega)
end Go.Proofs.YtifjghkgmfmneaaGreatDoor
