/- The walks of both, Same and of the document's both and Same of two values. Conditions: as stated. -/
import Derived.Test.YtjmfknfponjgkaaGreatDoorJRug
import Derived.Test.YtjmfknfponjgkaaGreatDoorJRue
import Derived.Test.YtjmfknfponjgkaaGreatDoorJPhc
import Derived.Test.YtjmfknfponjgkaaGreatDoorJRuS
set_option maxRecDepth 100000
namespace Go.Proofs.YtjmfknfponjgkaaGreatDoor
section
open Go.RowKit
def errB (nm a b : List UInt8) : Int := if (RuS.normal nm a).2 ≠ 0 then (RuS.normal nm a).2 else (RuS.normal nm b).2
def BothRet (nm a b : List UInt8) (w : World) (e : Ending) (w' : World) : Prop :=
 ∃ x y : List UInt8, e = .returned (.tuple #[.string ⟨x.toArray⟩, .string ⟨y.toArray⟩, .int .i64 (errB nm a b)]) /\ (errB nm a b = 0 -> x = (RuS.normal nm a).1 /\ y = (RuS.normal nm b).1) /\ Below w.heap.size w w'
theorem BothRet.mk' {nm a b x y : List UInt8} {w w' : World} {n : Int} (h : errB nm a b = n) (hxy : n = 0 -> x = (RuS.normal nm a).1 /\ y = (RuS.normal nm b).1) (hb : Below w.heap.size w w') :
  BothRet nm a b w (.returned (.tuple #[.string ⟨x.toArray⟩, .string ⟨y.toArray⟩, .int .i64 n])) w' := ⟨x, y, by rw [h], by rw [h]; exact hxy, hb⟩
theorem errB_first {nm a b : List UInt8} {n : Int} (h : (RuS.normal nm a).2 = n) (hn : n ≠ 0) : errB nm a b = n := by unfold errB; rw [h, if_pos hn]
theorem errB_second {nm a b : List UInt8} {n : Int} (h : (RuS.normal nm a).2 = 0) (h2 : (RuS.normal nm b).2 = n) : errB nm a b = n := by unfold errB; rw [h, if_neg (by simp), h2]
theorem both_c (nm a b : ByteArray) (hn : nm.size <= 9223372036854775807) (ha : a.size <= 9223372036854775807) (hb : b.size <= 9223372036854775807) (w : World) (hE : Env w) :
  Calls Tryz.prog 102 #[.string nm, .string a, .string b] w (BothRet nm.data.toList a.data.toList b.data.toList w) := by
 have h1 := fun w hE => rulenormal_c nm a hn ha w hE
 have h2 := fun w hE => rulenormal_c nm b hn hb w hE
 unfold NormRet at h1 h2
 have HA1 : Hid ((RuS.normal nm.data.toList a.data.toList).1 = (RuS.normal nm.data.toList a.data.toList).1) := hZ9 rfl
 generalize hr1 : RuS.normal nm.data.toList a.data.toList = r1 at *
 generalize hr2 : RuS.normal nm.data.toList b.data.toList = r2 at *
 obtain ⟨x, e1⟩ := r1
 obtain ⟨y, e2⟩ := r2
 simp only at h1 h2
 have HR1 := hZ9 hr1
 have HR2 := hZ9 hr2
 clear hr1 hr2 HA1
 by_cases z1 : e1 = 0
 · subst z1
   go_enter Tryz.func102, Tryz.ntmps102
   go_wp2_with fail
   refine (h1 _ hE).mono ?_; rintro e w1 ⟨rfl, hb1⟩
   go_wp2_with fail
   refine (h2 _ (hE.below hb1)).mono ?_; rintro e w2 ⟨rfl, hb2⟩
   go_wp2_with fail
   go_ret3
   exact BothRet.mk' (errB_second (by rw [HR1.out]) (by rw [HR2.out])) (fun _ => ⟨by rw [HR1.out], by rw [HR2.out]⟩) (below_trans hb1 hb2)
 · have hz : (e1 == 0) = false := by simpa using z1
   have HZ := hZ9 z1
   clear z1
   go_enter Tryz.func102, Tryz.ntmps102
   go_wp2_with fail
   refine (h1 _ hE).mono ?_; rintro e w1 ⟨rfl, hb1⟩
   go_wp2_with fail
   go_ret3
   exact BothRet.mk' (y := []) (errB_first (by rw [HR1.out]) HZ.out) (fun h => absurd h HZ.out) hb1
theorem refboth_c (nm a b : ByteArray) (hn : nm.size <= 9223372036854775807) (ha : a.size <= 9223372036854775807) (hb : b.size <= 9223372036854775807) (w : World) (hE : Env w) :
  Calls Tryz.prog 115 #[.string nm, .string a, .string b] w (BothRet nm.data.toList a.data.toList b.data.toList w) := by
 have h1 := fun w hE => refnormal_c nm a hn ha w hE
 have h2 := fun w hE => refnormal_c nm b hn hb w hE
 unfold NormRet at h1 h2
 generalize hr1 : RuS.normal nm.data.toList a.data.toList = r1 at *
 generalize hr2 : RuS.normal nm.data.toList b.data.toList = r2 at *
 obtain ⟨x, e1⟩ := r1
 obtain ⟨y, e2⟩ := r2
 simp only at h1 h2
 have HR1 := hZ9 hr1
 have HR2 := hZ9 hr2
 clear hr1 hr2
 by_cases z1 : e1 = 0
 · subst z1
   by_cases z2 : e2 = 0
   · subst z2
     go_enter Tryz.func115, Tryz.ntmps115
     go_wp2_with fail
     refine (h1 _ hE).mono ?_; rintro e w1 ⟨rfl, hb1⟩
     go_wp2_with fail
     refine (h2 _ (hE.below hb1)).mono ?_; rintro e w2 ⟨rfl, hb2⟩
     go_wp2_with fail
     go_ret3
     exact BothRet.mk' (errB_second (by rw [HR1.out]) (by rw [HR2.out])) (fun _ => ⟨by rw [HR1.out], by rw [HR2.out]⟩) (below_trans hb1 hb2)
   · have hz : (e2 != 0) = true := by simpa using z2
     have HZ := hZ9 z2
     clear z2
     go_enter Tryz.func115, Tryz.ntmps115
     go_wp2_with fail
     refine (h1 _ hE).mono ?_; rintro e w1 ⟨rfl, hb1⟩
     go_wp2_with fail
     refine (h2 _ (hE.below hb1)).mono ?_; rintro e w2 ⟨rfl, hb2⟩
     go_wp2_with fail
     go_ret3
     exact BothRet.mk' (x := []) (y := []) (errB_second (by rw [HR1.out]) (by rw [HR2.out])) (fun h => absurd h HZ.out) (below_trans hb1 hb2)
 · have hz : (e1 != 0) = true := by simpa using z1
   have HZ := hZ9 z1
   clear z1
   go_enter Tryz.func115, Tryz.ntmps115
   go_wp2_with fail
   refine (h1 _ hE).mono ?_; rintro e w1 ⟨rfl, hb1⟩
   go_wp2_with fail
   go_ret3
   exact BothRet.mk' (x := []) (y := []) (errB_first (by rw [HR1.out]) HZ.out) (fun h => absurd h HZ.out) hb1
def sameB (nm a b : List UInt8) : Bool := decide (errB nm a b = 0) && ((RuS.normal nm a).1 == (RuS.normal nm b).1)
def SameRet (nm a b : List UInt8) (w : World) (e : Ending) (w' : World) : Prop := e = .returned (.tuple #[.bool (sameB nm a b), .int .i64 (errB nm a b)]) /\ Below w.heap.size w w'
theorem SameRet.mk' {nm a b : List UInt8} {w w' : World} {q : Bool} {n : Int} (h : errB nm a b = n) (hq : sameB nm a b = q) (hb : Below w.heap.size w w') : SameRet nm a b w (.returned (.tuple #[.bool q, .int .i64 n])) w' := by
 unfold SameRet; rw [h, hq]; exact ⟨rfl, hb⟩
end
section
open Go.RowKit
theorem errB_zero (nm a b : List UInt8) : errB nm a b = 0 ↔ (RuS.normal nm a).2 = 0 /\ (RuS.normal nm b).2 = 0 := by
 unfold errB
 by_cases h : (RuS.normal nm a).2 = 0
 · rw [if_neg (by simpa using h)]; exact ⟨fun h2 => ⟨h, h2⟩, fun h2 => h2.2⟩
 · rw [if_pos h]; exact ⟨fun h2 => absurd h2 h, fun h2 => h2.1⟩
end
end Go.Proofs.YtjmfknfponjgkaaGreatDoor
