/- The walks of the document's 'Normal', of 'both' and 'Same', the program's and the document's. Condition: the library's variables are laid. -/
import Derived.Test.YtjjbkldlgjllnaaGreatDoorRuf
import Derived.Test.YtjjbkldlgjllnaaGreatDoorRug
import Derived.Test.YtjjbkldlgjllnaaGreatDoorPhe
namespace Go.Proofs.YtjjbkldlgjllnaaGreatDoor
open Go.RowKit

theorem normV_one (l : List UInt8) : RuS.normV 1 l = if (textR l).isEmpty = true then none else some (textR l) := by
  show (if (RuS.textS l).isEmpty || RuS.hasNul l then none else some (RuS.textS l)) = _
  unfold textR
  cases h : RuS.hasNul l with
  | true => simp
  | false => simp
theorem normV_three (l : List UInt8) : RuS.normV 3 l = if (RuS.intR l).isSome = true then some l else none := by
  rw [RuS.intR_eq]; rfl
theorem normV_four (l : List UInt8) : RuS.normV 4 l = if (PhS.parseP l).isSome = true then some l else none := rfl

set_option maxRecDepth 100000 in
set_option maxHeartbeats 1000000 in
theorem refnormal_c (nm s : ByteArray) (hn : nm.size ≤ 9223372036854775807) (hs : s.size ≤ 9223372036854775807) (w : World) (hE : Env w) :
    Calls Tryz.prog 23 #[.string nm, .string s] w (NormRet nm.data.toList s.data.toList w) := by
  have hty := fun w => reftype_c nm hn w
  unfold TypeRet at hty
  have hall := RuS.typeM_all (RuS.lower nm.data.toList)
  have HN : Hid (RuS.normal nm.data.toList s.data.toList = RuS.normalR (RuS.typeOf nm.data.toList).2 s.data.toList) := Lib.hid rfl
  have hall' : RuS.typeOf nm.data.toList = ([], 0) ∨ (1 ≤ (RuS.typeOf nm.data.toList).2 ∧ (RuS.typeOf nm.data.toList).2 ≤ 5 ∧ 1 ≤ (RuS.typeOf nm.data.toList).1.length ∧ (RuS.typeOf nm.data.toList).1.length ≤ 17) := hall
  clear hall
  generalize RuS.typeOf nm.data.toList = r at *
  obtain ⟨t, sy⟩ := r
  simp only at hty HN hall'
  have hsl := Lib.size_eq s
  by_cases h0 : sy = 0
  · subst h0
    go_enter Tryz.func23, Tryz.ntmps23
    go_wp2_with fail
    refine (hty _).mono ?_; rintro e w1 ⟨rfl, hb1⟩
    go_wp2_with fail
    go_ret2
    exact NormRet.mk' (r := ([], 5)) (by rw [HN.out]; rfl) hb1
  by_cases h5 : sy = 5
  · subst h5
    go_enter Tryz.func23, Tryz.ntmps23
    go_wp2_with fail
    refine (hty _).mono ?_; rintro e w1 ⟨rfl, hb1⟩
    go_wp2_with fail
    go_ret2
    exact NormRet.mk' (r := ([], 1)) (by rw [HN.out]; rfl) hb1
  have hb15 : sy = 1 ∨ sy = 2 ∨ sy = 3 ∨ sy = 4 := by
    rcases hall' with h | h
    · injection h with _ h; exact absurd h h0
    · omega
  have g0 : (sy == 0) = false := by simpa using h0
  have g5 : (sy == 5) = false := by simpa using h5
  have H0 := Lib.hid h0
  have H5 := Lib.hid h5
  have HB := Lib.hid hb15
  clear h0 h5 hall' hb15
  by_cases he : s.data.toList.length < 1 ∨ 200 < s.data.toList.length
  · have HE := Lib.hid he
    rw [← hsl] at he
    clear hsl
    rcases he with he | he
    all_goals
      go_enter Tryz.func23, Tryz.ntmps23
      go_wp2_with fail
      refine (hty _).mono ?_; rintro e w1 ⟨rfl, hb1⟩
      go_wp2_with fail
      go_ret2
      exact NormRet.mk' (r := ([], 2)) (by rw [HN.out]; unfold RuS.normalR; rw [if_neg H0.out, if_neg H5.out, if_pos HE.out]) hb1
  have HG := Lib.hid he
  have hg1 : 1 ≤ s.size := by omega
  have hg2 : s.size ≤ 200 := by omega
  clear he hsl
  have hgd : decide ((200 : Int) < (s.size : Int)) = false := decide_eq_false (by omega)
  have hgd1 : decide ((s.size : Int) < 1) = false := decide_eq_false (by omega)
  have HF : ∀ r, (match RuS.normV sy s.data.toList with | none => ([], 2) | some s => (s, 0)) = r → RuS.normal nm.data.toList s.data.toList = r := by
    intro r hr
    rw [HN.out]; unfold RuS.normalR; rw [if_neg H0.out, if_neg H5.out, if_neg HG.out]; exact hr
  have HF := Lib.hid HF
  rcases HB.out with rfl | rfl | rfl | rfl
  · have ht := fun w => reftext_c s (by omega) w
    unfold TextRet at ht
    have HV := Lib.hid (normV_one s.data.toList)
    generalize textR s.data.toList = tx at *
    cases hx : tx.isEmpty with
    | true =>
      have HX := Lib.hid hx
      go_enter Tryz.func23, Tryz.ntmps23
      go_wp2_with fail
      refine (hty _).mono ?_; rintro e w1 ⟨rfl, hb1⟩
      go_wp2_with fail
      refine (ht _).mono ?_; rintro e w2 ⟨rfl, hb2⟩
      go_wp2_with fail
      go_ret2
      exact NormRet.mk' (r := ([], 2)) (HF.out _ (by rw [HV.out, if_pos HX.out])) (below_trans hb1 hb2)
    | false =>
      have HX : Hid (¬ tx.isEmpty = true) := Lib.hid (by rw [hx]; decide)
      go_enter Tryz.func23, Tryz.ntmps23
      go_wp2_with fail
      refine (hty _).mono ?_; rintro e w1 ⟨rfl, hb1⟩
      go_wp2_with fail
      refine (ht _).mono ?_; rintro e w2 ⟨rfl, hb2⟩
      go_wp2_with fail
      go_ret2
      exact NormRet.mk' (r := (_, 0)) (HF.out _ (by rw [HV.out, if_neg HX.out])) (below_trans hb1 hb2)
  · go_enter Tryz.func23, Tryz.ntmps23
    go_wp2_with fail
    refine (hty _).mono ?_; rintro e w1 ⟨rfl, hb1⟩
    go_wp2_with fail
    go_ret2
    have := NormRet.mk' (r := (s.data.toList, 0)) (HF.out _ rfl) hb1
    rw [mk_str] at this
    exact this
  · have hi := fun w => refint_c s (by omega) w
    unfold IntRet at hi
    have HV := Lib.hid (normV_three s.data.toList)
    generalize RuS.intR s.data.toList = iv at *
    cases iv with
    | none =>
      simp only [Option.isSome_none] at hi
      go_enter Tryz.func23, Tryz.ntmps23
      go_wp2_with fail
      refine (hty _).mono ?_; rintro e w1 ⟨rfl, hb1⟩
      go_wp2_with fail
      refine (hi _).mono ?_; rintro e w2 ⟨rfl, rfl⟩
      go_wp2_with fail
      go_ret2
      exact NormRet.mk' (r := ([], 2)) (HF.out _ (by rw [HV.out]; rfl)) hb1
    | some n =>
      simp only [Option.isSome_some, Option.getD_some] at hi
      go_enter Tryz.func23, Tryz.ntmps23
      go_wp2_with fail
      refine (hty _).mono ?_; rintro e w1 ⟨rfl, hb1⟩
      go_wp2_with fail
      refine (hi _).mono ?_; rintro e w2 ⟨rfl, rfl⟩
      go_wp2_with fail
      go_ret2
      have := NormRet.mk' (r := (s.data.toList, 0)) (HF.out _ (by rw [HV.out]; rfl)) hb1
      rw [mk_str] at this
      exact this
  · have hp := fun w hE => refparse_c s (by omega) w hE
    unfold ParseRet at hp
    have HV := Lib.hid (normV_four s.data.toList)
    generalize PhS.parseP s.data.toList = pv at *
    cases pv with
    | none =>
      simp only at hp
      go_enter Tryz.func23, Tryz.ntmps23
      go_wp2_with fail
      refine (hty _).mono ?_; rintro e w1 ⟨rfl, hb1⟩
      go_wp2_with fail
      refine (hp _ (hE.below hb1)).mono ?_; rintro e w2 ⟨rfl, hb2⟩
      go_wp2_with fail
      go_ret2
      exact NormRet.mk' (r := ([], 2)) (HF.out _ (by rw [HV.out]; rfl)) (below_alloc (below_trans hb1 hb2) _)
    | some p =>
      obtain ⟨pa, pb⟩ := p
      simp only at hp
      go_enter Tryz.func23, Tryz.ntmps23
      go_wp2_with fail
      refine (hty _).mono ?_; rintro e w1 ⟨rfl, hb1⟩
      go_wp2_with fail
      refine (hp _ (hE.below hb1)).mono ?_; rintro e w2 ⟨rfl, hb2⟩
      go_wp2_with fail
      go_ret2
      have := NormRet.mk' (r := (s.data.toList, 0)) (HF.out _ (by rw [HV.out]; rfl)) (below_alloc (below_trans hb1 hb2) (.cells #[.int .i64 pa, .int .i64 pb] 83))
      rw [mk_str] at this
      exact this

/-- the code of two values -/
def errB (nm a b : List UInt8) : Int := if (RuS.normal nm a).2 ≠ 0 then (RuS.normal nm a).2 else (RuS.normal nm b).2
def BothRet (nm a b : List UInt8) (w : World) (e : Ending) (w' : World) : Prop :=
  ∃ x y : List UInt8, e = .returned (.tuple #[.string ⟨x.toArray⟩, .string ⟨y.toArray⟩, .int .i64 (errB nm a b)]) ∧ (errB nm a b = 0 → x = (RuS.normal nm a).1 ∧ y = (RuS.normal nm b).1) ∧ Below w.heap.size w w'
theorem BothRet.mk' {nm a b x y : List UInt8} {w w' : World} {n : Int} (h : errB nm a b = n) (hxy : n = 0 → x = (RuS.normal nm a).1 ∧ y = (RuS.normal nm b).1) (hb : Below w.heap.size w w') :
    BothRet nm a b w (.returned (.tuple #[.string ⟨x.toArray⟩, .string ⟨y.toArray⟩, .int .i64 n])) w' := ⟨x, y, by rw [h], by rw [h]; exact hxy, hb⟩
theorem errB_first {nm a b : List UInt8} {n : Int} (h : (RuS.normal nm a).2 = n) (hn : n ≠ 0) : errB nm a b = n := by unfold errB; rw [h, if_pos hn]
theorem errB_second {nm a b : List UInt8} {n : Int} (h : (RuS.normal nm a).2 = 0) (h2 : (RuS.normal nm b).2 = n) : errB nm a b = n := by unfold errB; rw [h, if_neg (by simp), h2]

set_option maxRecDepth 100000 in
theorem both_c (nm a b : ByteArray) (hn : nm.size ≤ 9223372036854775807) (ha : a.size ≤ 9223372036854775807) (hb : b.size ≤ 9223372036854775807) (w : World) (hE : Env w) :
    Calls Tryz.prog 74 #[.string nm, .string a, .string b] w (BothRet nm.data.toList a.data.toList b.data.toList w) := by
  have h1 := fun w hE => rulenormal_c nm a hn ha w hE
  have h2 := fun w hE => rulenormal_c nm b hn hb w hE
  unfold NormRet at h1 h2
  have HA1 : Hid ((RuS.normal nm.data.toList a.data.toList).1 = (RuS.normal nm.data.toList a.data.toList).1) := Lib.hid rfl
  generalize hr1 : RuS.normal nm.data.toList a.data.toList = r1 at *
  generalize hr2 : RuS.normal nm.data.toList b.data.toList = r2 at *
  obtain ⟨x, e1⟩ := r1
  obtain ⟨y, e2⟩ := r2
  simp only at h1 h2
  have HR1 := Lib.hid hr1
  have HR2 := Lib.hid hr2
  clear hr1 hr2 HA1
  by_cases z1 : e1 = 0
  · subst z1
    go_enter Tryz.func74, Tryz.ntmps74
    go_wp2_with fail
    refine (h1 _ hE).mono ?_; rintro e w1 ⟨rfl, hb1⟩
    go_wp2_with fail
    refine (h2 _ (hE.below hb1)).mono ?_; rintro e w2 ⟨rfl, hb2⟩
    go_wp2_with fail
    go_ret3
    exact BothRet.mk' (errB_second (by rw [HR1.out]) (by rw [HR2.out])) (fun _ => ⟨by rw [HR1.out], by rw [HR2.out]⟩) (below_trans hb1 hb2)
  · have hz : (e1 == 0) = false := by simpa using z1
    have HZ := Lib.hid z1
    clear z1
    go_enter Tryz.func74, Tryz.ntmps74
    go_wp2_with fail
    refine (h1 _ hE).mono ?_; rintro e w1 ⟨rfl, hb1⟩
    go_wp2_with fail
    go_ret3
    exact BothRet.mk' (y := []) (errB_first (by rw [HR1.out]) HZ.out) (fun h => absurd h HZ.out) hb1

set_option maxRecDepth 100000 in
theorem refboth_c (nm a b : ByteArray) (hn : nm.size ≤ 9223372036854775807) (ha : a.size ≤ 9223372036854775807) (hb : b.size ≤ 9223372036854775807) (w : World) (hE : Env w) :
    Calls Tryz.prog 75 #[.string nm, .string a, .string b] w (BothRet nm.data.toList a.data.toList b.data.toList w) := by
  have h1 := fun w hE => refnormal_c nm a hn ha w hE
  have h2 := fun w hE => refnormal_c nm b hn hb w hE
  unfold NormRet at h1 h2
  generalize hr1 : RuS.normal nm.data.toList a.data.toList = r1 at *
  generalize hr2 : RuS.normal nm.data.toList b.data.toList = r2 at *
  obtain ⟨x, e1⟩ := r1
  obtain ⟨y, e2⟩ := r2
  simp only at h1 h2
  have HR1 := Lib.hid hr1
  have HR2 := Lib.hid hr2
  clear hr1 hr2
  by_cases z1 : e1 = 0
  · subst z1
    by_cases z2 : e2 = 0
    · subst z2
      go_enter Tryz.func75, Tryz.ntmps75
      go_wp2_with fail
      refine (h1 _ hE).mono ?_; rintro e w1 ⟨rfl, hb1⟩
      go_wp2_with fail
      refine (h2 _ (hE.below hb1)).mono ?_; rintro e w2 ⟨rfl, hb2⟩
      go_wp2_with fail
      go_ret3
      exact BothRet.mk' (errB_second (by rw [HR1.out]) (by rw [HR2.out])) (fun _ => ⟨by rw [HR1.out], by rw [HR2.out]⟩) (below_trans hb1 hb2)
    · have hz : (e2 != 0) = true := by simpa using z2
      have HZ := Lib.hid z2
      clear z2
      go_enter Tryz.func75, Tryz.ntmps75
      go_wp2_with fail
      refine (h1 _ hE).mono ?_; rintro e w1 ⟨rfl, hb1⟩
      go_wp2_with fail
      refine (h2 _ (hE.below hb1)).mono ?_; rintro e w2 ⟨rfl, hb2⟩
      go_wp2_with fail
      go_ret3
      exact BothRet.mk' (x := []) (y := []) (errB_second (by rw [HR1.out]) (by rw [HR2.out])) (fun h => absurd h HZ.out) (below_trans hb1 hb2)
  · have hz : (e1 != 0) = true := by simpa using z1
    have HZ := Lib.hid z1
    clear z1
    go_enter Tryz.func75, Tryz.ntmps75
    go_wp2_with fail
    refine (h1 _ hE).mono ?_; rintro e w1 ⟨rfl, hb1⟩
    go_wp2_with fail
    go_ret3
    exact BothRet.mk' (x := []) (y := []) (errB_first (by rw [HR1.out]) HZ.out) (fun h => absurd h HZ.out) hb1

/-- are two values alike? -/
def sameB (nm a b : List UInt8) : Bool := decide (errB nm a b = 0) && ((RuS.normal nm a).1 == (RuS.normal nm b).1)
def SameRet (nm a b : List UInt8) (w : World) (e : Ending) (w' : World) : Prop := e = .returned (.tuple #[.bool (sameB nm a b), .int .i64 (errB nm a b)]) ∧ Below w.heap.size w w'
theorem SameRet.mk' {nm a b : List UInt8} {w w' : World} {q : Bool} {n : Int} (h : errB nm a b = n) (hq : sameB nm a b = q) (hb : Below w.heap.size w w') : SameRet nm a b w (.returned (.tuple #[.bool q, .int .i64 n])) w' := by
  unfold SameRet; rw [h, hq]; exact ⟨rfl, hb⟩


set_option maxRecDepth 100000 in
theorem same_c (nm a b : ByteArray) (hn : nm.size ≤ 9223372036854775807) (ha : a.size ≤ 9223372036854775807) (hb : b.size ≤ 9223372036854775807) (w : World) (hE : Env w) :
    Calls Tryz.prog 24 #[.string nm, .string a, .string b] w (SameRet nm.data.toList a.data.toList b.data.toList w) := by
  have h1 := both_c nm a b hn ha hb w hE
  unfold BothRet at h1
  have HS : Hid (sameB nm.data.toList a.data.toList b.data.toList = (decide (errB nm.data.toList a.data.toList b.data.toList = 0) && ((RuS.normal nm.data.toList a.data.toList).1 == (RuS.normal nm.data.toList b.data.toList).1))) := Lib.hid rfl
  generalize her : errB nm.data.toList a.data.toList b.data.toList = er at *
  have HER := Lib.hid her
  clear her
  by_cases z1 : er = 0
  · subst z1
    go_enter Tryz.func24, Tryz.ntmps24
    go_wp2_with fail
    refine h1.mono ?_; rintro e w1 ⟨x, y, rfl, hxy, hb1⟩
    obtain ⟨hx, hy⟩ := hxy (by trivial)
    have HX := Lib.hid hx
    have HY := Lib.hid hy
    clear hx hy hxy
    go_wp2_with fail
    go_ret2
    exact SameRet.mk' HER.out (by rw [HS.out, ← HX.out, ← HY.out]; simp) hb1
  · have hz : (er == 0) = false := by simpa using z1
    have HZ := Lib.hid z1
    clear z1
    go_enter Tryz.func24, Tryz.ntmps24
    go_wp2_with fail
    refine h1.mono ?_; rintro e w1 ⟨x, y, rfl, hxy, hb1⟩
    clear hxy
    go_wp2_with fail
    go_ret2
    exact SameRet.mk' HER.out (by rw [HS.out, decide_eq_false HZ.out]; rfl) hb1

set_option maxRecDepth 100000 in
theorem refsame_c (nm a b : ByteArray) (hn : nm.size ≤ 9223372036854775807) (ha : a.size ≤ 9223372036854775807) (hb : b.size ≤ 9223372036854775807) (w : World) (hE : Env w) :
    Calls Tryz.prog 25 #[.string nm, .string a, .string b] w (SameRet nm.data.toList a.data.toList b.data.toList w) := by
  have h1 := refboth_c nm a b hn ha hb w hE
  unfold BothRet at h1
  have HS : Hid (sameB nm.data.toList a.data.toList b.data.toList = (decide (errB nm.data.toList a.data.toList b.data.toList = 0) && ((RuS.normal nm.data.toList a.data.toList).1 == (RuS.normal nm.data.toList b.data.toList).1))) := Lib.hid rfl
  generalize her : errB nm.data.toList a.data.toList b.data.toList = er at *
  have HER := Lib.hid her
  clear her
  by_cases z1 : er = 0
  · subst z1
    go_enter Tryz.func25, Tryz.ntmps25
    go_wp2_with fail
    refine h1.mono ?_; rintro e w1 ⟨x, y, rfl, hxy, hb1⟩
    obtain ⟨hx, hy⟩ := hxy (by trivial)
    have HX := Lib.hid hx
    have HY := Lib.hid hy
    clear hx hy hxy
    go_wp2_with fail
    go_ret2
    exact SameRet.mk' HER.out (by rw [HS.out, ← HX.out, ← HY.out]; simp) hb1
  · have hz : (er == 0) = false := by simpa using z1
    have HZ := Lib.hid z1
    clear z1
    go_enter Tryz.func25, Tryz.ntmps25
    go_wp2_with fail
    refine h1.mono ?_; rintro e w1 ⟨x, y, rfl, hxy, hb1⟩
    clear hxy
    go_wp2_with fail
    go_ret2
    exact SameRet.mk' HER.out (by rw [HS.out, decide_eq_false HZ.out]; rfl) hb1
end Go.Proofs.YtjjbkldlgjllnaaGreatDoor
