/- The walk of the document's 'Type'. No condition but that a text's length is a machine's. -/
import Derived.Test.YtjjbkldlgjllnaaGreatDoorRua
namespace Go.Proofs.YtjjbkldlgjllnaaGreatDoor
open Go.RowKit

def TypeRet (l : List UInt8) (w : World) (e : Ending) (w' : World) : Prop := e = .returned (.tuple #[.string ⟨(RuS.typeOf l).1.toArray⟩, .int .i64 (RuS.typeOf l).2]) ∧ Below w.heap.size w w'
theorem TypeRet.mk' {l : List UInt8} {w w' : World} {r : List UInt8 × Int} (h : RuS.typeOf l = r) (hb : Below w.heap.size w w') : TypeRet l w (.returned (.tuple #[.string ⟨r.1.toArray⟩, .int .i64 r.2])) w' := by
  unfold TypeRet; rw [h]; exact ⟨rfl, hb⟩
theorem typeOf_m {l m : List UInt8} {r : List UInt8 × Int} (hm : RuS.lower l = m) (h : RuS.typeM m = r) : RuS.typeOf l = r := by unfold RuS.typeOf; rw [hm]; exact h

set_option maxRecDepth 100000 in
theorem reftype_0 (s : ByteArray) (hs : s.size ≤ 9223372036854775807) (m : List UInt8) (hm : RuS.lower s.data.toList = m)  (h0 : (m == [111, 98, 106, 101, 99, 116, 99, 108, 97, 115, 115]) = true) (w : World) : Calls Tryz.prog 70 #[.string s] w (TypeRet s.data.toList w) := by
  have hl := fun w => reflower_c s hs w
  unfold LowRet at hl
  rw [hm] at hl
  have HR := Lib.hid (typeOf_m hm (show RuS.typeM m = ([111, 98, 106, 101, 99, 116, 67, 108, 97, 115, 115], 1) from by rw [beq_iff_eq.1 h0]; decide +kernel))
  clear hm
  go_enter Tryz.func70, Tryz.ntmps70
  go_wp2_with fail
  refine (hl _).mono ?_; rintro e w1 ⟨rfl, hb1⟩
  go_wp2_with fail
  go_ret2
  exact TypeRet.mk' HR.out hb1

set_option maxRecDepth 100000 in
theorem reftype_1 (s : ByteArray) (hs : s.size ≤ 9223372036854775807) (m : List UInt8) (hm : RuS.lower s.data.toList = m) (h0 : (m == [111, 98, 106, 101, 99, 116, 99, 108, 97, 115, 115]) = false) (h1 : (m == [99, 110]) = true) (w : World) : Calls Tryz.prog 70 #[.string s] w (TypeRet s.data.toList w) := by
  have hl := fun w => reflower_c s hs w
  unfold LowRet at hl
  rw [hm] at hl
  have HR := Lib.hid (typeOf_m hm (show RuS.typeM m = ([99, 110], 1) from by rw [beq_iff_eq.1 h1]; decide +kernel))
  have HM := Lib.hid (beq_iff_eq.1 h1)
  clear hm
  go_enter Tryz.func70, Tryz.ntmps70
  go_wp2_with fail
  refine (hl _).mono ?_; rintro e w1 ⟨rfl, hb1⟩
  go_wp2_with fail
  refine (hl _).mono ?_; rintro e w2 ⟨rfl, hb2⟩
  go_wp2_with fail
  go_ret2
  have := TypeRet.mk' HR.out (below_trans hb1 hb2)
  rw [HM.out]
  exact this

set_option maxRecDepth 100000 in
theorem reftype_2 (s : ByteArray) (hs : s.size ≤ 9223372036854775807) (m : List UInt8) (hm : RuS.lower s.data.toList = m) (h0 : (m == [111, 98, 106, 101, 99, 116, 99, 108, 97, 115, 115]) = false) (h1 : (m == [99, 110]) = false) (h2 : (m == [111, 117]) = true) (w : World) : Calls Tryz.prog 70 #[.string s] w (TypeRet s.data.toList w) := by
  have hl := fun w => reflower_c s hs w
  unfold LowRet at hl
  rw [hm] at hl
  have HR := Lib.hid (typeOf_m hm (show RuS.typeM m = ([111, 117], 1) from by rw [beq_iff_eq.1 h2]; decide +kernel))
  have HM := Lib.hid (beq_iff_eq.1 h2)
  clear hm
  go_enter Tryz.func70, Tryz.ntmps70
  go_wp2_with fail
  refine (hl _).mono ?_; rintro e w1 ⟨rfl, hb1⟩
  go_wp2_with fail
  refine (hl _).mono ?_; rintro e w2 ⟨rfl, hb2⟩
  go_wp2_with fail
  go_ret2
  have := TypeRet.mk' HR.out (below_trans hb1 hb2)
  rw [HM.out]
  exact this

set_option maxRecDepth 100000 in
theorem reftype_3 (s : ByteArray) (hs : s.size ≤ 9223372036854775807) (m : List UInt8) (hm : RuS.lower s.data.toList = m) (h0 : (m == [111, 98, 106, 101, 99, 116, 99, 108, 97, 115, 115]) = false) (h1 : (m == [99, 110]) = false) (h2 : (m == [111, 117]) = false) (h3 : (m == [111]) = true) (w : World) : Calls Tryz.prog 70 #[.string s] w (TypeRet s.data.toList w) := by
  have hl := fun w => reflower_c s hs w
  unfold LowRet at hl
  rw [hm] at hl
  have HR := Lib.hid (typeOf_m hm (show RuS.typeM m = ([111], 1) from by rw [beq_iff_eq.1 h3]; decide +kernel))
  have HM := Lib.hid (beq_iff_eq.1 h3)
  clear hm
  go_enter Tryz.func70, Tryz.ntmps70
  go_wp2_with fail
  refine (hl _).mono ?_; rintro e w1 ⟨rfl, hb1⟩
  go_wp2_with fail
  refine (hl _).mono ?_; rintro e w2 ⟨rfl, hb2⟩
  go_wp2_with fail
  go_ret2
  have := TypeRet.mk' HR.out (below_trans hb1 hb2)
  rw [HM.out]
  exact this

set_option maxRecDepth 100000 in
theorem reftype_4 (s : ByteArray) (hs : s.size ≤ 9223372036854775807) (m : List UInt8) (hm : RuS.lower s.data.toList = m) (h0 : (m == [111, 98, 106, 101, 99, 116, 99, 108, 97, 115, 115]) = false) (h1 : (m == [99, 110]) = false) (h2 : (m == [111, 117]) = false) (h3 : (m == [111]) = false) (h4 : (m == [100, 99]) = true) (w : World) : Calls Tryz.prog 70 #[.string s] w (TypeRet s.data.toList w) := by
  have hl := fun w => reflower_c s hs w
  unfold LowRet at hl
  rw [hm] at hl
  have HR := Lib.hid (typeOf_m hm (show RuS.typeM m = ([100, 99], 1) from by rw [beq_iff_eq.1 h4]; decide +kernel))
  have HM := Lib.hid (beq_iff_eq.1 h4)
  clear hm
  go_enter Tryz.func70, Tryz.ntmps70
  go_wp2_with fail
  refine (hl _).mono ?_; rintro e w1 ⟨rfl, hb1⟩
  go_wp2_with fail
  refine (hl _).mono ?_; rintro e w2 ⟨rfl, hb2⟩
  go_wp2_with fail
  go_ret2
  have := TypeRet.mk' HR.out (below_trans hb1 hb2)
  rw [HM.out]
  exact this

set_option maxRecDepth 100000 in
theorem reftype_5 (s : ByteArray) (hs : s.size ≤ 9223372036854775807) (m : List UInt8) (hm : RuS.lower s.data.toList = m) (h0 : (m == [111, 98, 106, 101, 99, 116, 99, 108, 97, 115, 115]) = false) (h1 : (m == [99, 110]) = false) (h2 : (m == [111, 117]) = false) (h3 : (m == [111]) = false) (h4 : (m == [100, 99]) = false) (h5 : (m == [117, 105, 100]) = true) (w : World) : Calls Tryz.prog 70 #[.string s] w (TypeRet s.data.toList w) := by
  have hl := fun w => reflower_c s hs w
  unfold LowRet at hl
  rw [hm] at hl
  have HR := Lib.hid (typeOf_m hm (show RuS.typeM m = ([117, 105, 100], 1) from by rw [beq_iff_eq.1 h5]; decide +kernel))
  have HM := Lib.hid (beq_iff_eq.1 h5)
  clear hm
  go_enter Tryz.func70, Tryz.ntmps70
  go_wp2_with fail
  refine (hl _).mono ?_; rintro e w1 ⟨rfl, hb1⟩
  go_wp2_with fail
  refine (hl _).mono ?_; rintro e w2 ⟨rfl, hb2⟩
  go_wp2_with fail
  go_ret2
  have := TypeRet.mk' HR.out (below_trans hb1 hb2)
  rw [HM.out]
  exact this

set_option maxRecDepth 100000 in
theorem reftype_6 (s : ByteArray) (hs : s.size ≤ 9223372036854775807) (m : List UInt8) (hm : RuS.lower s.data.toList = m) (h0 : (m == [111, 98, 106, 101, 99, 116, 99, 108, 97, 115, 115]) = false) (h1 : (m == [99, 110]) = false) (h2 : (m == [111, 117]) = false) (h3 : (m == [111]) = false) (h4 : (m == [100, 99]) = false) (h5 : (m == [117, 105, 100]) = false) (h6 : (m == [100, 101, 115, 99, 114, 105, 112, 116, 105, 111, 110]) = true) (w : World) : Calls Tryz.prog 70 #[.string s] w (TypeRet s.data.toList w) := by
  have hl := fun w => reflower_c s hs w
  unfold LowRet at hl
  rw [hm] at hl
  have HR := Lib.hid (typeOf_m hm (show RuS.typeM m = ([100, 101, 115, 99, 114, 105, 112, 116, 105, 111, 110], 1) from by rw [beq_iff_eq.1 h6]; decide +kernel))
  have HM := Lib.hid (beq_iff_eq.1 h6)
  clear hm
  go_enter Tryz.func70, Tryz.ntmps70
  go_wp2_with fail
  refine (hl _).mono ?_; rintro e w1 ⟨rfl, hb1⟩
  go_wp2_with fail
  refine (hl _).mono ?_; rintro e w2 ⟨rfl, hb2⟩
  go_wp2_with fail
  go_ret2
  have := TypeRet.mk' HR.out (below_trans hb1 hb2)
  rw [HM.out]
  exact this

set_option maxRecDepth 100000 in
theorem reftype_7 (s : ByteArray) (hs : s.size ≤ 9223372036854775807) (m : List UInt8) (hm : RuS.lower s.data.toList = m) (h0 : (m == [111, 98, 106, 101, 99, 116, 99, 108, 97, 115, 115]) = false) (h1 : (m == [99, 110]) = false) (h2 : (m == [111, 117]) = false) (h3 : (m == [111]) = false) (h4 : (m == [100, 99]) = false) (h5 : (m == [117, 105, 100]) = false) (h6 : (m == [100, 101, 115, 99, 114, 105, 112, 116, 105, 111, 110]) = false) (h7 : (m == [109, 97, 105, 108]) = true) (w : World) : Calls Tryz.prog 70 #[.string s] w (TypeRet s.data.toList w) := by
  have hl := fun w => reflower_c s hs w
  unfold LowRet at hl
  rw [hm] at hl
  have HR := Lib.hid (typeOf_m hm (show RuS.typeM m = ([109, 97, 105, 108], 1) from by rw [beq_iff_eq.1 h7]; decide +kernel))
  have HM := Lib.hid (beq_iff_eq.1 h7)
  clear hm
  go_enter Tryz.func70, Tryz.ntmps70
  go_wp2_with fail
  refine (hl _).mono ?_; rintro e w1 ⟨rfl, hb1⟩
  go_wp2_with fail
  refine (hl _).mono ?_; rintro e w2 ⟨rfl, hb2⟩
  go_wp2_with fail
  go_ret2
  have := TypeRet.mk' HR.out (below_trans hb1 hb2)
  rw [HM.out]
  exact this

set_option maxRecDepth 100000 in
theorem reftype_8 (s : ByteArray) (hs : s.size ≤ 9223372036854775807) (m : List UInt8) (hm : RuS.lower s.data.toList = m) (h0 : (m == [111, 98, 106, 101, 99, 116, 99, 108, 97, 115, 115]) = false) (h1 : (m == [99, 110]) = false) (h2 : (m == [111, 117]) = false) (h3 : (m == [111]) = false) (h4 : (m == [100, 99]) = false) (h5 : (m == [117, 105, 100]) = false) (h6 : (m == [100, 101, 115, 99, 114, 105, 112, 116, 105, 111, 110]) = false) (h7 : (m == [109, 97, 105, 108]) = false) (h8 : (m == [117, 115, 101, 114, 112, 97, 115, 115, 119, 111, 114, 100]) = true) (w : World) : Calls Tryz.prog 70 #[.string s] w (TypeRet s.data.toList w) := by
  have hl := fun w => reflower_c s hs w
  unfold LowRet at hl
  rw [hm] at hl
  have HR := Lib.hid (typeOf_m hm (show RuS.typeM m = ([117, 115, 101, 114, 80, 97, 115, 115, 119, 111, 114, 100], 2) from by rw [beq_iff_eq.1 h8]; decide +kernel))
  clear hm
  go_enter Tryz.func70, Tryz.ntmps70
  go_wp2_with fail
  refine (hl _).mono ?_; rintro e w1 ⟨rfl, hb1⟩
  go_wp2_with fail
  go_ret2
  exact TypeRet.mk' HR.out hb1

set_option maxRecDepth 100000 in
theorem reftype_9 (s : ByteArray) (hs : s.size ≤ 9223372036854775807) (m : List UInt8) (hm : RuS.lower s.data.toList = m) (h0 : (m == [111, 98, 106, 101, 99, 116, 99, 108, 97, 115, 115]) = false) (h1 : (m == [99, 110]) = false) (h2 : (m == [111, 117]) = false) (h3 : (m == [111]) = false) (h4 : (m == [100, 99]) = false) (h5 : (m == [117, 105, 100]) = false) (h6 : (m == [100, 101, 115, 99, 114, 105, 112, 116, 105, 111, 110]) = false) (h7 : (m == [109, 97, 105, 108]) = false) (h8 : (m == [117, 115, 101, 114, 112, 97, 115, 115, 119, 111, 114, 100]) = false) (h9 : (m == [114, 101, 102]) = true) (w : World) : Calls Tryz.prog 70 #[.string s] w (TypeRet s.data.toList w) := by
  have hl := fun w => reflower_c s hs w
  unfold LowRet at hl
  rw [hm] at hl
  have HR := Lib.hid (typeOf_m hm (show RuS.typeM m = ([114, 101, 102], 2) from by rw [beq_iff_eq.1 h9]; decide +kernel))
  clear hm
  go_enter Tryz.func70, Tryz.ntmps70
  go_wp2_with fail
  refine (hl _).mono ?_; rintro e w1 ⟨rfl, hb1⟩
  go_wp2_with fail
  go_ret2
  exact TypeRet.mk' HR.out hb1

set_option maxRecDepth 100000 in
theorem reftype_10 (s : ByteArray) (hs : s.size ≤ 9223372036854775807) (m : List UInt8) (hm : RuS.lower s.data.toList = m) (h0 : (m == [111, 98, 106, 101, 99, 116, 99, 108, 97, 115, 115]) = false) (h1 : (m == [99, 110]) = false) (h2 : (m == [111, 117]) = false) (h3 : (m == [111]) = false) (h4 : (m == [100, 99]) = false) (h5 : (m == [117, 105, 100]) = false) (h6 : (m == [100, 101, 115, 99, 114, 105, 112, 116, 105, 111, 110]) = false) (h7 : (m == [109, 97, 105, 108]) = false) (h8 : (m == [117, 115, 101, 114, 112, 97, 115, 115, 119, 111, 114, 100]) = false) (h9 : (m == [114, 101, 102]) = false) (h10 : (m == [115, 101, 114, 105, 97, 108, 110, 117, 109, 98, 101, 114]) = true) (w : World) : Calls Tryz.prog 70 #[.string s] w (TypeRet s.data.toList w) := by
  have hl := fun w => reflower_c s hs w
  unfold LowRet at hl
  rw [hm] at hl
  have HR := Lib.hid (typeOf_m hm (show RuS.typeM m = ([115, 101, 114, 105, 97, 108, 78, 117, 109, 98, 101, 114], 3) from by rw [beq_iff_eq.1 h10]; decide +kernel))
  clear hm
  go_enter Tryz.func70, Tryz.ntmps70
  go_wp2_with fail
  refine (hl _).mono ?_; rintro e w1 ⟨rfl, hb1⟩
  go_wp2_with fail
  go_ret2
  exact TypeRet.mk' HR.out hb1

set_option maxRecDepth 100000 in
theorem reftype_11 (s : ByteArray) (hs : s.size ≤ 9223372036854775807) (m : List UInt8) (hm : RuS.lower s.data.toList = m) (h0 : (m == [111, 98, 106, 101, 99, 116, 99, 108, 97, 115, 115]) = false) (h1 : (m == [99, 110]) = false) (h2 : (m == [111, 117]) = false) (h3 : (m == [111]) = false) (h4 : (m == [100, 99]) = false) (h5 : (m == [117, 105, 100]) = false) (h6 : (m == [100, 101, 115, 99, 114, 105, 112, 116, 105, 111, 110]) = false) (h7 : (m == [109, 97, 105, 108]) = false) (h8 : (m == [117, 115, 101, 114, 112, 97, 115, 115, 119, 111, 114, 100]) = false) (h9 : (m == [114, 101, 102]) = false) (h10 : (m == [115, 101, 114, 105, 97, 108, 110, 117, 109, 98, 101, 114]) = false) (h11 : (m == [112, 111, 115, 105, 116, 105, 111, 110]) = true) (w : World) : Calls Tryz.prog 70 #[.string s] w (TypeRet s.data.toList w) := by
  have hl := fun w => reflower_c s hs w
  unfold LowRet at hl
  rw [hm] at hl
  have HR := Lib.hid (typeOf_m hm (show RuS.typeM m = ([112, 111, 115, 105, 116, 105, 111, 110], 4) from by rw [beq_iff_eq.1 h11]; decide +kernel))
  clear hm
  go_enter Tryz.func70, Tryz.ntmps70
  go_wp2_with fail
  refine (hl _).mono ?_; rintro e w1 ⟨rfl, hb1⟩
  go_wp2_with fail
  go_ret2
  exact TypeRet.mk' HR.out hb1

set_option maxRecDepth 100000 in
theorem reftype_12 (s : ByteArray) (hs : s.size ≤ 9223372036854775807) (m : List UInt8) (hm : RuS.lower s.data.toList = m) (h0 : (m == [111, 98, 106, 101, 99, 116, 99, 108, 97, 115, 115]) = false) (h1 : (m == [99, 110]) = false) (h2 : (m == [111, 117]) = false) (h3 : (m == [111]) = false) (h4 : (m == [100, 99]) = false) (h5 : (m == [117, 105, 100]) = false) (h6 : (m == [100, 101, 115, 99, 114, 105, 112, 116, 105, 111, 110]) = false) (h7 : (m == [109, 97, 105, 108]) = false) (h8 : (m == [117, 115, 101, 114, 112, 97, 115, 115, 119, 111, 114, 100]) = false) (h9 : (m == [114, 101, 102]) = false) (h10 : (m == [115, 101, 114, 105, 97, 108, 110, 117, 109, 98, 101, 114]) = false) (h11 : (m == [112, 111, 115, 105, 116, 105, 111, 110]) = false) (h12 : (m == [97, 108, 105, 97, 115, 101, 100, 111, 98, 106, 101, 99, 116, 110, 97, 109, 101]) = true) (w : World) : Calls Tryz.prog 70 #[.string s] w (TypeRet s.data.toList w) := by
  have hl := fun w => reflower_c s hs w
  unfold LowRet at hl
  rw [hm] at hl
  have HR := Lib.hid (typeOf_m hm (show RuS.typeM m = ([97, 108, 105, 97, 115, 101, 100, 79, 98, 106, 101, 99, 116, 78, 97, 109, 101], 5) from by rw [beq_iff_eq.1 h12]; decide +kernel))
  clear hm
  go_enter Tryz.func70, Tryz.ntmps70
  go_wp2_with fail
  refine (hl _).mono ?_; rintro e w1 ⟨rfl, hb1⟩
  go_wp2_with fail
  go_ret2
  exact TypeRet.mk' HR.out hb1

set_option maxRecDepth 100000 in
theorem reftype_13 (s : ByteArray) (hs : s.size ≤ 9223372036854775807) (m : List UInt8) (hm : RuS.lower s.data.toList = m) (h0 : (m == [111, 98, 106, 101, 99, 116, 99, 108, 97, 115, 115]) = false) (h1 : (m == [99, 110]) = false) (h2 : (m == [111, 117]) = false) (h3 : (m == [111]) = false) (h4 : (m == [100, 99]) = false) (h5 : (m == [117, 105, 100]) = false) (h6 : (m == [100, 101, 115, 99, 114, 105, 112, 116, 105, 111, 110]) = false) (h7 : (m == [109, 97, 105, 108]) = false) (h8 : (m == [117, 115, 101, 114, 112, 97, 115, 115, 119, 111, 114, 100]) = false) (h9 : (m == [114, 101, 102]) = false) (h10 : (m == [115, 101, 114, 105, 97, 108, 110, 117, 109, 98, 101, 114]) = false) (h11 : (m == [112, 111, 115, 105, 116, 105, 111, 110]) = false) (h12 : (m == [97, 108, 105, 97, 115, 101, 100, 111, 98, 106, 101, 99, 116, 110, 97, 109, 101]) = false) (h13 : (m == [109, 101, 109, 98, 101, 114]) = true) (w : World) : Calls Tryz.prog 70 #[.string s] w (TypeRet s.data.toList w) := by
  have hl := fun w => reflower_c s hs w
  unfold LowRet at hl
  rw [hm] at hl
  have HR := Lib.hid (typeOf_m hm (show RuS.typeM m = ([109, 101, 109, 98, 101, 114], 5) from by rw [beq_iff_eq.1 h13]; decide +kernel))
  clear hm
  go_enter Tryz.func70, Tryz.ntmps70
  go_wp2_with fail
  refine (hl _).mono ?_; rintro e w1 ⟨rfl, hb1⟩
  go_wp2_with fail
  go_ret2
  exact TypeRet.mk' HR.out hb1

set_option maxRecDepth 100000 in
theorem reftype_14 (s : ByteArray) (hs : s.size ≤ 9223372036854775807) (m : List UInt8) (hm : RuS.lower s.data.toList = m) (h0 : (m == [111, 98, 106, 101, 99, 116, 99, 108, 97, 115, 115]) = false) (h1 : (m == [99, 110]) = false) (h2 : (m == [111, 117]) = false) (h3 : (m == [111]) = false) (h4 : (m == [100, 99]) = false) (h5 : (m == [117, 105, 100]) = false) (h6 : (m == [100, 101, 115, 99, 114, 105, 112, 116, 105, 111, 110]) = false) (h7 : (m == [109, 97, 105, 108]) = false) (h8 : (m == [117, 115, 101, 114, 112, 97, 115, 115, 119, 111, 114, 100]) = false) (h9 : (m == [114, 101, 102]) = false) (h10 : (m == [115, 101, 114, 105, 97, 108, 110, 117, 109, 98, 101, 114]) = false) (h11 : (m == [112, 111, 115, 105, 116, 105, 111, 110]) = false) (h12 : (m == [97, 108, 105, 97, 115, 101, 100, 111, 98, 106, 101, 99, 116, 110, 97, 109, 101]) = false) (h13 : (m == [109, 101, 109, 98, 101, 114]) = false) (w : World) : Calls Tryz.prog 70 #[.string s] w (TypeRet s.data.toList w) := by
  have hl := fun w => reflower_c s hs w
  unfold LowRet at hl
  rw [hm] at hl
  have HR := Lib.hid (typeOf_m hm (show RuS.typeM m = ([], 0) from by unfold RuS.typeM RuS.tab; simp only [List.find?, h0, h1, h2, h3, h4, h5, h6, h7, h8, h9, h10, h11, h12, h13]))
  clear hm
  go_enter Tryz.func70, Tryz.ntmps70
  go_wp2_with fail
  refine (hl _).mono ?_; rintro e w1 ⟨rfl, hb1⟩
  go_wp2_with fail
  go_ret2
  exact TypeRet.mk' HR.out hb1

theorem reftype_c (s : ByteArray) (hs : s.size ≤ 9223372036854775807) (w : World) : Calls Tryz.prog 70 #[.string s] w (TypeRet s.data.toList w) := by
  generalize hm : RuS.lower s.data.toList = m
  cases h0 : (m == [111, 98, 106, 101, 99, 116, 99, 108, 97, 115, 115]) with
  | true => exact reftype_0 s hs m hm h0 w
  | false =>
    cases h1 : (m == [99, 110]) with
    | true => exact reftype_1 s hs m hm h0 h1 w
    | false =>
      cases h2 : (m == [111, 117]) with
      | true => exact reftype_2 s hs m hm h0 h1 h2 w
      | false =>
        cases h3 : (m == [111]) with
        | true => exact reftype_3 s hs m hm h0 h1 h2 h3 w
        | false =>
          cases h4 : (m == [100, 99]) with
          | true => exact reftype_4 s hs m hm h0 h1 h2 h3 h4 w
          | false =>
            cases h5 : (m == [117, 105, 100]) with
            | true => exact reftype_5 s hs m hm h0 h1 h2 h3 h4 h5 w
            | false =>
              cases h6 : (m == [100, 101, 115, 99, 114, 105, 112, 116, 105, 111, 110]) with
              | true => exact reftype_6 s hs m hm h0 h1 h2 h3 h4 h5 h6 w
              | false =>
                cases h7 : (m == [109, 97, 105, 108]) with
                | true => exact reftype_7 s hs m hm h0 h1 h2 h3 h4 h5 h6 h7 w
                | false =>
                  cases h8 : (m == [117, 115, 101, 114, 112, 97, 115, 115, 119, 111, 114, 100]) with
                  | true => exact reftype_8 s hs m hm h0 h1 h2 h3 h4 h5 h6 h7 h8 w
                  | false =>
                    cases h9 : (m == [114, 101, 102]) with
                    | true => exact reftype_9 s hs m hm h0 h1 h2 h3 h4 h5 h6 h7 h8 h9 w
                    | false =>
                      cases h10 : (m == [115, 101, 114, 105, 97, 108, 110, 117, 109, 98, 101, 114]) with
                      | true => exact reftype_10 s hs m hm h0 h1 h2 h3 h4 h5 h6 h7 h8 h9 h10 w
                      | false =>
                        cases h11 : (m == [112, 111, 115, 105, 116, 105, 111, 110]) with
                        | true => exact reftype_11 s hs m hm h0 h1 h2 h3 h4 h5 h6 h7 h8 h9 h10 h11 w
                        | false =>
                          cases h12 : (m == [97, 108, 105, 97, 115, 101, 100, 111, 98, 106, 101, 99, 116, 110, 97, 109, 101]) with
                          | true => exact reftype_12 s hs m hm h0 h1 h2 h3 h4 h5 h6 h7 h8 h9 h10 h11 h12 w
                          | false =>
                            cases h13 : (m == [109, 101, 109, 98, 101, 114]) with
                            | true => exact reftype_13 s hs m hm h0 h1 h2 h3 h4 h5 h6 h7 h8 h9 h10 h11 h12 h13 w
                            | false =>
                              exact reftype_14 s hs m hm h0 h1 h2 h3 h4 h5 h6 h7 h8 h9 h10 h11 h12 h13 w
end Go.Proofs.YtjjbkldlgjllnaaGreatDoor
