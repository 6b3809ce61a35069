/- The walks of values that are raised: the program's increment, the document's raised. Conditions: the values have a normal form; the library's variables are laid. -/
import Derived.Test.YtmnhgbkdahdoiaaGreatDoorMEnV
import Derived.Test.YtmnhgbkdahdoiaaGreatDoorMRug
import Derived.Test.YtmnhgbkdahdoiaaGreatDoorMPhl
import Derived.Test.YtmnhgbkdahdoiaaGreatDoorMRue
import Derived.Test.YtmnhgbkdahdoiaaGreatDoorMPhi
namespace Go.Proofs.YtmnhgbkdahdoiaaGreatDoor
open Go.RowKit

def IncRet (r : Option (List UInt8)) (w : World) (e : Ending) (w' : World) : Prop := ∃ s b, e = .returned (.tuple #[.string ⟨s.toArray⟩, .bool b]) ∧ b = r.isSome ∧ (∀ q, r = some q → s = q) ∧ Below w.heap.size w w'
theorem IncRet.mk' {r : Option (List UInt8)} {s : List UInt8} {b : Bool} {w w' : World} (h : r = if b = true then some s else none) (hb : Below w.heap.size w w') : IncRet r w (.returned (.tuple #[.string ⟨s.toArray⟩, .bool b])) w' := by
  refine ⟨s, b, rfl, ?_, fun q hq => ?_, hb⟩
  · rw [h]; cases b <;> rfl
  · rw [h] at hq
    cases b
    · cases hq
    · exact Option.some.inj hq
theorem parse64_itoa {n : Int} (h : n.natAbs < 1000000000000000000) : Lib.parseIntB 64 (Lib.itoa n) = .ok n := by
  have h1 : RuS.intS (Lib.itoa n) = some n := RuS.intS_iff.2 ⟨rfl, h⟩
  unfold RuS.intS at h1
  cases hp : Lib.parseIntB 64 (Lib.itoa n) with
  | ok m =>
    rw [hp] at h1
    simp only at h1
    split at h1
    · rw [Option.some.inj h1]
    · cases h1
  | _ => rw [hp] at h1; cases h1
theorem ser_code {n : Int} (h : n.natAbs < 10000000000000000000) : ((RuS.normal EnS.tSer (Lib.itoa n)).2 == 0) = (RuS.intS (Lib.itoa n)).isSome := by
  have hl : (Lib.itoa n).length ≤ 20 := PhS.itoa_len h
  have hp : 1 ≤ (Lib.itoa n).length := List.length_pos_iff.2 (PhS.itoa_ne n)
  unfold RuS.normal RuS.normalR
  rw [EnS.ser_type, if_neg (by decide), if_neg (by decide), if_neg (by omega)]
  cases hs : (RuS.intS (Lib.itoa n)).isSome with
  | true =>
    have : RuS.normV 3 (Lib.itoa n) = some (Lib.itoa n) := by unfold RuS.normV; simp [hs]
    rw [this]; rfl
  | false =>
    have : RuS.normV 3 (Lib.itoa n) = none := by unfold RuS.normV; simp [hs]
    rw [this]; rfl
theorem up_int {t v x : List UInt8} {m n : Int} (ht : (RuS.typeOf t).2 = 3) (hv : RuS.intS v = some m) (hx : RuS.intS x = some n) : EnS.upS t 3 v x = if (RuS.intS (Lib.itoa (m + n))).isSome = true then some (Lib.itoa (m + n)) else none := by
  unfold EnS.upS
  rw [if_pos ht, if_pos rfl, hv, hx]
  rfl
theorem up_plane {t v x : List UInt8} {a b c d : Int} (ht : (RuS.typeOf t).2 = 4) (hv : PhS.parseP v = some (a, b)) (hx : PhS.parseP x = some (c, d)) : EnS.upS t 4 v x = if PhS.inR (a + c) (b + d) = true then some (PhS.text (a + c) (b + d)) else none := by
  unfold EnS.upS
  rw [if_pos ht, if_neg (by decide), if_pos rfl, hv, hx]

set_option maxRecDepth 100000 in
set_option maxHeartbeats 1000000 in
theorem inc3_c (m n : Int) (hm : m.natAbs < 1000000000000000000) (hn : n.natAbs < 1000000000000000000) (w : World) (hE : Env w) :
    Calls Tryz.prog 46 #[.int .i64 3, .string ⟨(Lib.itoa m).toArray⟩, .string ⟨(Lib.itoa n).toArray⟩] w (IncRet (if (RuS.intS (Lib.itoa (m + n))).isSome = true then some (Lib.itoa (m + n)) else none) w) := by
  have lm : (Lib.itoa m).length ≤ 20 := PhS.itoa_len (by omega)
  have ln : (Lib.itoa n).length ≤ 20 := PhS.itoa_len (by omega)
  have ls : (Lib.itoa (m + n)).length ≤ 20 := PhS.itoa_len (by omega)
  have hp1 := fun W => parseInt64_ok ⟨(Lib.itoa m).toArray⟩ (by show (Lib.itoa m).toArray.size ≤ _; simp; omega) m (by show Lib.parseIntB 64 (Lib.itoa m).toArray.toList = _; simpa using parse64_itoa hm) W
  have hp2 := fun W => parseInt64_ok ⟨(Lib.itoa n).toArray⟩ (by show (Lib.itoa n).toArray.size ≤ _; simp; omega) n (by show Lib.parseIntB 64 (Lib.itoa n).toArray.toList = _; simpa using parse64_itoa hn) W
  have hfm := fun W hE => fmtInt (m + n) (by omega) (by omega) W hE
  have hno := fun W hE => rulenormal_c ⟨EnS.tSer.toArray⟩ ⟨(Lib.itoa (m + n)).toArray⟩ (by decide) (by show (Lib.itoa (m + n)).toArray.size ≤ _; simp; omega) W hE
  unfold NormRet at hno
  have hser : (⟨EnS.tSer.toArray⟩ : ByteArray) = ⟨#[115, 101, 114, 105, 97, 108, 78, 117, 109, 98, 101, 114]⟩ := rfl
  have hc := ser_code (n := m + n) (by omega)
  have h1 : (⟨EnS.tSer.toArray⟩ : ByteArray).data.toList = EnS.tSer := rfl
  have h2 : (⟨(Lib.itoa (m + n)).toArray⟩ : ByteArray).data.toList = Lib.itoa (m + n) := by simp
  rw [h1, h2, hser] at hno
  clear h1 h2 hser
  obtain ⟨k, hk⟩ : ∃ k, m + n = k := ⟨_, rfl⟩
  have p1 : IntKind.i64.wrap (m + n) = k := by rw [← hk]; exact Go.IntWalk.i64_in _ (by omega)
  rw [hk] at ls hfm hno hc ⊢
  clear hk
  generalize Lib.itoa m = M at *
  generalize Lib.itoa n = N at *
  generalize Lib.itoa k = K at *
  obtain ⟨s9, e9, h9⟩ : ∃ s e, RuS.normal EnS.tSer K = (s, e) := ⟨_, _, rfl⟩
  rw [h9] at hno hc
  simp only at hno hc
  generalize (RuS.intS K).isSome = ok at *
  obtain ⟨R, hR⟩ : ∃ R, (if ok = true then some K else none) = R := ⟨_, rfl⟩
  have HR := Lib.hid hR.symm
  rw [hR]
  clear h9 hm hn hR
  go_enter Tryz.func46, Tryz.ntmps46
  go_wp2_with fail
  refine (hp1 _).mono ?_; rintro e w1 ⟨rfl, hb1⟩
  go_wp2_with fail
  refine (hp2 _).mono ?_; rintro e w2 ⟨rfl, hb2⟩
  have hz2 := below_trans hb1 hb2
  go_wp2_with fail
  refine (hfm _ (hE.below hz2)).mono ?_; rintro e w3 ⟨rfl, hb3⟩
  have hz3 := below_trans hz2 hb3
  go_wp2_with fail
  refine (hno _ (hE.below hz3)).mono ?_; rintro e w4 ⟨rfl, hb4⟩
  have hz4 := below_trans hz3 hb4
  go_wp2_with fail
  go_ret2
  exact IncRet.mk' HR.out hz4

set_option maxRecDepth 100000 in
set_option maxHeartbeats 1000000 in
theorem inc4_c (v x : List UInt8) (a b c d : Int) (hv : PhS.parseP v = some (a, b)) (hx : PhS.parseP x = some (c, d)) (lv : v.length ≤ 1000000) (lx : x.length ≤ 1000000) (w : World) (hE : Env w) :
    Calls Tryz.prog 46 #[.int .i64 4, .string ⟨v.toArray⟩, .string ⟨x.toArray⟩] w (IncRet (if PhS.inR (a + c) (b + d) = true then some (PhS.text (a + c) (b + d)) else none) w) := by
  have hp1 := fun W hE => parse_c ⟨v.toArray⟩ (by show v.toArray.size + 2 ≤ _; simp; omega) W hE
  have hp2 := fun W hE => parse_c ⟨x.toArray⟩ (by show x.toArray.size + 2 ≤ _; simp; omega) W hE
  have h1 : (⟨v.toArray⟩ : ByteArray).data.toList = v := by simp
  have h2 : (⟨x.toArray⟩ : ByteArray).data.toList = x := by simp
  unfold ParseP at hp1 hp2
  rw [h1, hv] at hp1
  rw [h2, hx] at hp2
  simp only at hp1 hp2
  clear h1 h2
  have r1 := (PhS.parseP_some.1 hv).1
  have r2 := (PhS.parseP_some.1 hx).1
  have had := fun W => add_c a b c d r1 r2 W
  unfold Reckoned at had
  clear hv hx
  generalize a + c = n at *
  generalize b + d = m at *
  cases hR : PhS.inR n m with
  | true =>
    have hpr := fun W hE => print_yes n m hR W hE
    unfold Printed at hpr
    simp only [hR, if_true] at had
    generalize PhS.text n m = s at *
    generalize Fl.D a = A at *
    generalize Fl.D b = B at *
    generalize Fl.D c = C at *
    generalize Fl.D d = D at *
    generalize Fl.D n = N at *
    generalize Fl.D m = M at *
    clear r1 r2 hR
    go_enter Tryz.func46, Tryz.ntmps46
    go_wp2_with fail
    refine (hp1 _ hE).mono ?_; rintro e w1 ⟨rfl, hb1⟩
    go_wp2_with fail
    refine (hp2 _ (hE.below hb1)).mono ?_; rintro e w2 ⟨rfl, hb2⟩
    have hz2 := below_trans hb1 hb2
    go_wp2_with fail
    refine (had _).mono ?_; rintro e w3 ⟨rfl, hb3⟩
    have hz3 := below_trans hz2 hb3
    go_wp2_with fail
    refine (hpr _ (hE.below hz3)).mono ?_; rintro e w4 ⟨rfl, hb4⟩
    have hz4 := below_trans hz3 hb4
    go_wp2_with fail
    go_ret2
    exact IncRet.mk' rfl hz4
  | false =>
    have hpr := fun W hE => print_yes 0 0 (by decide) W hE
    unfold Printed at hpr
    rw [Fl.D_zero] at hpr
    simp only [hR, Bool.false_eq_true, if_false] at had
    generalize PhS.text 0 0 = s at *
    generalize Fl.D a = A at *
    generalize Fl.D b = B at *
    generalize Fl.D c = C at *
    generalize Fl.D d = D at *
    clear r1 r2 hR
    go_enter Tryz.func46, Tryz.ntmps46
    go_wp2_with fail
    refine (hp1 _ hE).mono ?_; rintro e w1 ⟨rfl, hb1⟩
    go_wp2_with fail
    refine (hp2 _ (hE.below hb1)).mono ?_; rintro e w2 ⟨rfl, hb2⟩
    have hz2 := below_trans hb1 hb2
    go_wp2_with fail
    refine (had _).mono ?_; rintro e w3 ⟨rfl, hb3⟩
    have hz3 := below_trans hz2 hb3
    go_wp2_with fail
    refine (hpr _ (hE.below hz3)).mono ?_; rintro e w4 ⟨rfl, hb4⟩
    have hz4 := below_trans hz3 hb4
    go_wp2_with fail
    go_ret2
    exact IncRet.mk' (by simp) hz4

theorem inc_c (t v x : List UInt8) (syn : Int) (hs : syn = 3 ∨ syn = 4) (ht : (RuS.typeOf t).2 = syn) (hv : (DnS.valueS t v).2 = 0) (hx : (DnS.valueS t x).2 = 0) (lv : v.length ≤ 1000000) (lx : x.length ≤ 1000000) (w : World) (hE : Env w) :
    Calls Tryz.prog 46 #[.int .i64 syn, .string ⟨v.toArray⟩, .string ⟨x.toArray⟩] w (IncRet (EnS.upS t syn v x) w) := by
  rcases hs with rfl | rfl
  · obtain ⟨m, hm⟩ := EnS.fine_int ht hv
    obtain ⟨n, hn⟩ := EnS.fine_int ht hx
    rw [up_int ht hm hn]
    obtain ⟨e1, l1⟩ := RuS.intS_iff.1 hm
    obtain ⟨e2, l2⟩ := RuS.intS_iff.1 hn
    rw [← e1, ← e2]
    exact inc3_c m n l1 l2 w hE
  · obtain ⟨a, b, hm⟩ := EnS.fine_plane ht hv
    obtain ⟨c, d, hn⟩ := EnS.fine_plane ht hx
    rw [up_plane ht hm hn]
    exact inc4_c v x a b c d hm hn lv lx w hE

set_option maxRecDepth 100000 in
set_option maxHeartbeats 1000000 in
theorem rai3_c (m n : Int) (hm : m.natAbs < 1000000000000000000) (hn : n.natAbs < 1000000000000000000) (w : World) (hE : Env w) :
    Calls Tryz.prog 59 #[.int .i64 3, .string ⟨(Lib.itoa m).toArray⟩, .string ⟨(Lib.itoa n).toArray⟩] w (IncRet (if (RuS.intS (Lib.itoa (m + n))).isSome = true then some (Lib.itoa (m + n)) else none) w) := by
  have lm : (Lib.itoa m).length ≤ 20 := PhS.itoa_len (by omega)
  have ln : (Lib.itoa n).length ≤ 20 := PhS.itoa_len (by omega)
  have ls : (Lib.itoa (m + n)).length ≤ 20 := PhS.itoa_len (by omega)
  have hp1 := fun W => refint_c ⟨(Lib.itoa m).toArray⟩ (by show (Lib.itoa m).toArray.size ≤ _; simp; omega) W
  have hp2 := fun W => refint_c ⟨(Lib.itoa n).toArray⟩ (by show (Lib.itoa n).toArray.size ≤ _; simp; omega) W
  have hp3 := fun W => refint_c ⟨(Lib.itoa (m + n)).toArray⟩ (by show (Lib.itoa (m + n)).toArray.size ≤ _; simp; omega) W
  have hfm := fun W hE => fmtInt (m + n) (by omega) (by omega) W hE
  unfold IntRet at hp1 hp2 hp3
  have h1 : ∀ l : List UInt8, (⟨l.toArray⟩ : ByteArray).data.toList = l := fun l => by simp
  rw [h1, RuS.intR_eq, RuS.intS_iff.2 ⟨rfl, hm⟩] at hp1
  rw [h1, RuS.intR_eq, RuS.intS_iff.2 ⟨rfl, hn⟩] at hp2
  rw [h1, RuS.intR_eq] at hp3
  simp only [Option.getD_some, Option.isSome_some] at hp1 hp2
  clear h1
  obtain ⟨k, hk⟩ : ∃ k, m + n = k := ⟨_, rfl⟩
  have p1 : IntKind.i64.wrap (m + n) = k := by rw [← hk]; exact Go.IntWalk.i64_in _ (by omega)
  rw [hk] at ls hfm hp3 ⊢
  clear hk
  generalize Lib.itoa m = M at *
  generalize Lib.itoa n = N at *
  generalize Lib.itoa k = K at *
  generalize (RuS.intS K).isSome = ok at *
  generalize (RuS.intS K).getD 0 = z at *
  obtain ⟨R, hR⟩ : ∃ R, (if ok = true then some K else none) = R := ⟨_, rfl⟩
  have HR := Lib.hid hR.symm
  rw [hR]
  clear hm hn hR
  go_enter Tryz.func59, Tryz.ntmps59
  go_wp2_with fail
  refine (hp1 _).mono ?_; rintro e w1 ⟨rfl, rfl⟩
  go_wp2_with fail
  refine (hp2 _).mono ?_; rintro e w2 ⟨rfl, rfl⟩
  go_wp2_with fail
  refine (hfm _ hE).mono ?_; rintro e w3 ⟨rfl, hb3⟩
  go_wp2_with fail
  refine (hp3 _).mono ?_; rintro e w4 ⟨rfl, rfl⟩
  go_wp2_with fail
  go_ret2
  exact IncRet.mk' HR.out hb3

set_option maxRecDepth 100000 in
set_option maxHeartbeats 1000000 in
theorem rai4_c (v x : List UInt8) (a b c d : Int) (hv : PhS.parseP v = some (a, b)) (hx : PhS.parseP x = some (c, d)) (lv : v.length ≤ 1000000) (lx : x.length ≤ 1000000) (w : World) (hE : Env w) :
    Calls Tryz.prog 59 #[.int .i64 4, .string ⟨v.toArray⟩, .string ⟨x.toArray⟩] w (IncRet (if PhS.inR (a + c) (b + d) = true then some (PhS.text (a + c) (b + d)) else none) w) := by
  have hp1 := fun W hE => refparse_c ⟨v.toArray⟩ (by show v.toArray.size ≤ _; simp; omega) W hE
  have hp2 := fun W hE => refparse_c ⟨x.toArray⟩ (by show x.toArray.size ≤ _; simp; omega) W hE
  have h1 : (⟨v.toArray⟩ : ByteArray).data.toList = v := by simp
  have h2 : (⟨x.toArray⟩ : ByteArray).data.toList = x := by simp
  unfold ParseRet at hp1 hp2
  rw [h1, hv] at hp1
  rw [h2, hx] at hp2
  simp only at hp1 hp2
  clear h1 h2
  have r1 := (PhS.parseP_some.1 hv).1
  have r2 := (PhS.parseP_some.1 hx).1
  have had := fun W => refadd_c a b c d r1 r2 W
  unfold RefRet at had
  clear hv hx
  generalize a + c = n at *
  generalize b + d = m at *
  cases hR : PhS.inR n m with
  | true =>
    have hpr := fun W hE => text_c n m hR W hE
    simp only [hR, if_true] at had
    generalize PhS.text n m = s at *
    clear r1 r2 hR
    go_enter Tryz.func59, Tryz.ntmps59
    go_wp2_with fail
    refine (hp1 _ hE).mono ?_; rintro e w1 ⟨rfl, hb1⟩
    have hg1 := grow1 w1 (.cells #[.int .i64 a, .int .i64 b] 114)
    have hm1 := Whole.made w1 114 #[.int .i64 a, .int .i64 b]
    have hz1 := below_trans hb1 hg1
    go_wp2_with fail
    refine (hp2 _ (hE.below hz1)).mono ?_; rintro e w2 ⟨rfl, hb2⟩
    have hg2 := grow1 w2 (.cells #[.int .i64 c, .int .i64 d] 114)
    have hn2 := Whole.made w2 114 #[.int .i64 c, .int .i64 d]
    have hz2 := below_trans (below_trans hz1 hb2) hg2
    have hm2 := (hm1.call hb2).call hg2
    have p0 := hm2.cell 0
    have p1 := hm2.cell 1
    have q0 := hn2.cell 0
    have q1 := hn2.cell 1
    simp only [List.getElem?_toArray, List.getElem?_cons_zero, List.getElem?_cons_succ] at p0 p1 q0 q1
    go_wp2_with fail
    refine (had _).mono ?_; rintro e w3 ⟨rfl, hb3⟩
    have hg3 := grow1 w3 (.cells #[.int .i64 n, .int .i64 m] 114)
    have hk3 := Whole.made w3 114 #[.int .i64 n, .int .i64 m]
    have hz3 := below_trans (below_trans hz2 hb3) hg3
    have r0 := hk3.cell 0
    have r1 := hk3.cell 1
    simp only [List.getElem?_toArray, List.getElem?_cons_zero, List.getElem?_cons_succ] at r0 r1
    clear p0 p1 q0 q1
    go_wp2_with fail
    refine (hpr _ (hE.below hz3)).mono ?_; rintro e w4 ⟨rfl, hb4⟩
    have hz4 := below_trans hz3 hb4
    go_wp2_with fail
    go_ret2
    exact IncRet.mk' rfl hz4
  | false =>
    have hpr := fun W hE => text_c 0 0 (by decide) W hE
    simp only [hR, Bool.false_eq_true, if_false] at had
    generalize PhS.text 0 0 = s at *
    clear r1 r2 hR
    go_enter Tryz.func59, Tryz.ntmps59
    go_wp2_with fail
    refine (hp1 _ hE).mono ?_; rintro e w1 ⟨rfl, hb1⟩
    have hg1 := grow1 w1 (.cells #[.int .i64 a, .int .i64 b] 114)
    have hm1 := Whole.made w1 114 #[.int .i64 a, .int .i64 b]
    have hz1 := below_trans hb1 hg1
    go_wp2_with fail
    refine (hp2 _ (hE.below hz1)).mono ?_; rintro e w2 ⟨rfl, hb2⟩
    have hg2 := grow1 w2 (.cells #[.int .i64 c, .int .i64 d] 114)
    have hn2 := Whole.made w2 114 #[.int .i64 c, .int .i64 d]
    have hz2 := below_trans (below_trans hz1 hb2) hg2
    have hm2 := (hm1.call hb2).call hg2
    have p0 := hm2.cell 0
    have p1 := hm2.cell 1
    have q0 := hn2.cell 0
    have q1 := hn2.cell 1
    simp only [List.getElem?_toArray, List.getElem?_cons_zero, List.getElem?_cons_succ] at p0 p1 q0 q1
    go_wp2_with fail
    refine (had _).mono ?_; rintro e w3 ⟨rfl, hb3⟩
    have hg3 := grow1 w3 (.cells #[.int .i64 0, .int .i64 0] 114)
    have hk3 := Whole.made w3 114 #[.int .i64 0, .int .i64 0]
    have hz3 := below_trans (below_trans hz2 hb3) hg3
    have r0 := hk3.cell 0
    have r1 := hk3.cell 1
    simp only [List.getElem?_toArray, List.getElem?_cons_zero, List.getElem?_cons_succ] at r0 r1
    clear p0 p1 q0 q1
    go_wp2_with fail
    refine (hpr _ (hE.below hz3)).mono ?_; rintro e w4 ⟨rfl, hb4⟩
    have hz4 := below_trans hz3 hb4
    go_wp2_with fail
    go_ret2
    exact IncRet.mk' (by simp) hz4

theorem rai_c (t v x : List UInt8) (syn : Int) (hs : syn = 3 ∨ syn = 4) (ht : (RuS.typeOf t).2 = syn) (hv : (DnS.valueS t v).2 = 0) (hx : (DnS.valueS t x).2 = 0) (lv : v.length ≤ 1000000) (lx : x.length ≤ 1000000) (w : World) (hE : Env w) :
    Calls Tryz.prog 59 #[.int .i64 syn, .string ⟨v.toArray⟩, .string ⟨x.toArray⟩] w (IncRet (EnS.upS t syn v x) w) := by
  rcases hs with rfl | rfl
  · obtain ⟨m, hm⟩ := EnS.fine_int ht hv
    obtain ⟨n, hn⟩ := EnS.fine_int ht hx
    rw [up_int ht hm hn]
    obtain ⟨e1, l1⟩ := RuS.intS_iff.1 hm
    obtain ⟨e2, l2⟩ := RuS.intS_iff.1 hn
    rw [← e1, ← e2]
    exact rai3_c m n l1 l2 w hE
  · obtain ⟨a, b, hm⟩ := EnS.fine_plane ht hv
    obtain ⟨c, d, hn⟩ := EnS.fine_plane ht hx
    rw [up_plane ht hm hn]
    exact rai4_c v x a b c d hm hn lv lx w hE
end Go.Proofs.YtmnhgbkdahdoiaaGreatDoor
