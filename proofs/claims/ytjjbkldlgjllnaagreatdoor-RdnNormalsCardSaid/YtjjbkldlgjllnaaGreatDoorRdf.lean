/- The walks of the digits and of the special bytes: the program's 'digit', the document's 'hex' and 'special'. No conditions. -/
import Derived.Test.YtjjbkldlgjllnaaGreatDoorRdc
import Derived.Test.YtjjbkldlgjllnaaGreatDoorRua
import Derived.Test.YtjjbkldlgjllnaaGreatDoorByt
namespace Go.Proofs.YtjjbkldlgjllnaaGreatDoor
open Go.RowKit

namespace RdS
/-- a digit's value; -1: none -/
def hexI (c : UInt8) : Int := match hexOf c with
  | some n => (n : Int)
  | none => -1
theorem hexI_index : ∀ n : Fin 256, Lib.indexByte hexL (RuS.lowC (UInt8.ofNat n.val)) = hexI (UInt8.ofNat n.val) := by decide +kernel
theorem hexI_low (c : UInt8) : Lib.indexByte hexL (RuS.lowC c) = hexI c := by
  have h := hexI_index ⟨c.toNat, c.toNat_lt⟩
  simpa using h
theorem hexI_cases (c : UInt8) : (hexOf c = none ∧ hexI c = -1) ∨ ∃ n : Nat, hexOf c = some n ∧ hexI c = (n : Int) ∧ n < 16 := by
  unfold hexI hexOf
  split
  · exact .inr ⟨_, rfl, rfl, by omega⟩
  · split
    · exact .inr ⟨_, rfl, rfl, by omega⟩
    · split
      · exact .inr ⟨_, rfl, rfl, by omega⟩
      · exact .inl ⟨rfl, rfl⟩
end RdS

set_option maxRecDepth 100000 in
theorem digit_c (c : UInt8) (w : World) : Calls Tryz.prog 133 #[.int .u8 (c.toNat : Int)] w fun e w' => e = .returned (.int .i64 (RdS.hexI c)) ∧ Below w.heap.size w w' := by
  have hlow := fun w => lower_c ⟨#[c]⟩ (by show 1 ≤ _; decide) w
  unfold LowRet at hlow
  have hl1 : (RuS.lower (⟨#[c]⟩ : ByteArray).data.toList) = [RuS.lowC c] := rfl
  rw [hl1] at hlow
  have hib := fun w => Tryz.strings_IndexByte ⟨#[48, 49, 50, 51, 52, 53, 54, 55, 56, 57, 97, 98, 99, 100, 101, 102]⟩ ((RuS.lowC c).toNat : Int) w
  have hd1 : (⟨#[48, 49, 50, 51, 52, 53, 54, 55, 56, 57, 97, 98, 99, 100, 101, 102]⟩ : ByteArray).data.toList = RdS.hexL := rfl
  have hd2 : (((RuS.lowC c).toNat : Int).toNat.toUInt8) = RuS.lowC c := by rw [Int.toNat_natCast]; exact UInt8.ofNat_toNat
  rw [hd1, hd2, RdS.hexI_low] at hib
  clear hd1 hd2 hl1
  have hconv : (convert 100 9 (.slice (some ⟨w.heap.size, 0, none⟩) 1 1)).run Tryz.prog (w.alloc (.cells #[.int .u8 (c.toNat : Int)] 5)) = .ok (.string ⟨#[c]⟩) (w.alloc (.cells #[.int .u8 (c.toNat : Int)] 5)) := by
    refine run_convert_bytes_back (w.alloc (.cells #[.int .u8 (c.toNat : Int)] 5)) _ _ 5 ⟨w.heap.size, 0, none⟩ 1 [c] Tryz.underlying100 Tryz.underlying5 Tryz.underlying9 fun j hj => ?_
    have : j = 0 := by simp at hj; exact hj
    subst this
    have hadd : (⟨w.heap.size, 0, none⟩ : Addr).add 0 = ⟨w.heap.size, 0, none⟩ := by unfold Addr.add; split <;> simp_all
    rw [hadd]
    simp [go_sem]
  generalize RuS.lowC c = d at *
  generalize RdS.hexI c = r at *
  go_enter Tryz.func133, Tryz.ntmps133
  go_wp2_with fail
  refine (hlow _).mono ?_; rintro e w1 ⟨rfl, hb1⟩
  go_wp2_with fail
  refine (hib _).mono ?_; rintro e w2 ⟨rfl, rfl⟩
  go_wp2_with fail
  go_ret
  exact ⟨rfl, (grow1 w _).trans (hb1.mono (by simp))⟩

set_option maxRecDepth 100000 in
theorem special_c (c : UInt8) (w : World) : Calls Tryz.prog 138 #[.int .u8 (c.toNat : Int)] w fun e w' => e = .returned (.bool (RdS.special c)) ∧ w = w' := by
  cases hs : RdS.special c with
  | true =>
    have hm : c ∈ RdS.specials := List.contains_iff_mem.1 hs
    simp only [RdS.specials, List.mem_cons, List.not_mem_nil, or_false] at hm
    clear hs
    rcases hm with rfl | rfl | rfl | rfl | rfl | rfl | rfl
    all_goals
      go_enter Tryz.func138, Tryz.ntmps138
      go_wp2_with fail
      go_ret
      exact ⟨rfl, rfl⟩
  | false =>
    have hn : ∀ d, RdS.special d = true → c ≠ d := fun d hd => RdS.special_sep hd hs
    have f1 : ((c.toNat : Int) == 44) = false := beq_eq_false_iff_ne.2 (fun h => hn 44 (by decide) (u8_is rfl h))
    have f2 : ((c.toNat : Int) == 43) = false := beq_eq_false_iff_ne.2 (fun h => hn 43 (by decide) (u8_is rfl h))
    have f3 : ((c.toNat : Int) == 34) = false := beq_eq_false_iff_ne.2 (fun h => hn 34 (by decide) (u8_is rfl h))
    have f4 : ((c.toNat : Int) == 92) = false := beq_eq_false_iff_ne.2 (fun h => hn 92 (by decide) (u8_is rfl h))
    have f5 : ((c.toNat : Int) == 60) = false := beq_eq_false_iff_ne.2 (fun h => hn 60 (by decide) (u8_is rfl h))
    have f6 : ((c.toNat : Int) == 62) = false := beq_eq_false_iff_ne.2 (fun h => hn 62 (by decide) (u8_is rfl h))
    have f7 : ((c.toNat : Int) == 59) = false := beq_eq_false_iff_ne.2 (fun h => hn 59 (by decide) (u8_is rfl h))
    clear hn hs
    go_enter Tryz.func138, Tryz.ntmps138
    go_wp2_with fail
    go_ret
    exact ⟨rfl, rfl⟩

set_option maxRecDepth 100000 in
theorem hex_c (c : UInt8) (w : World) : Calls Tryz.prog 169 #[.int .u8 (c.toNat : Int)] w fun e w' => e = .returned (.int .i64 (RdS.hexI c)) ∧ w = w' := by
  have hlt := c.toNat_lt
  by_cases h1 : 48 ≤ c.toNat ∧ c.toNat ≤ 57
  · have HR : Hid (RdS.hexI c = (c.toNat : Int) - 48) := Lib.hid (by unfold RdS.hexI RdS.hexOf; rw [if_pos h1]; show ((c.toNat - 48 : Nat) : Int) = _; omega)
    obtain ⟨h1, h2⟩ := h1
    have g1 : (48 : Int) ≤ (c.toNat : Int) := by omega
    have g2 : (c.toNat : Int) ≤ 57 := by omega
    go_enter Tryz.func169, Tryz.ntmps169
    go_wp2_with fail
    go_ret
    exact ⟨by rw [HR.out]; rfl, rfl⟩
  by_cases h2 : 97 ≤ c.toNat ∧ c.toNat ≤ 102
  · have HR : Hid (RdS.hexI c = (c.toNat : Int) - 97 + 10) := Lib.hid (by unfold RdS.hexI RdS.hexOf; rw [if_neg h1, if_pos h2]; show ((c.toNat - 97 + 10 : Nat) : Int) = _; omega)
    obtain ⟨h3, h4⟩ := h2
    have g1 : decide ((c.toNat : Int) ≤ 57) = false := decide_eq_false (by omega)
    have g0 : (48 : Int) ≤ (c.toNat : Int) := by omega
    have g2 : (97 : Int) ≤ (c.toNat : Int) := by omega
    have g3 : (c.toNat : Int) ≤ 102 := by omega
    clear h1
    go_enter Tryz.func169, Tryz.ntmps169
    go_wp2_with fail
    go_ret
    exact ⟨by rw [HR.out]; rfl, rfl⟩
  by_cases h3 : 65 ≤ c.toNat ∧ c.toNat ≤ 70
  · have HR : Hid (RdS.hexI c = (c.toNat : Int) - 65 + 10) := Lib.hid (by unfold RdS.hexI RdS.hexOf; rw [if_neg h1, if_neg h2, if_pos h3]; show ((c.toNat - 65 + 10 : Nat) : Int) = _; omega)
    obtain ⟨h4, h5⟩ := h3
    have g1 : decide ((c.toNat : Int) ≤ 57) = false := decide_eq_false (by omega)
    have g0 : (48 : Int) ≤ (c.toNat : Int) := by omega
    have g2 : decide ((97 : Int) ≤ (c.toNat : Int)) = false := decide_eq_false (by omega)
    have g3 : (65 : Int) ≤ (c.toNat : Int) := by omega
    have g4 : (c.toNat : Int) ≤ 70 := by omega
    clear h1 h2
    go_enter Tryz.func169, Tryz.ntmps169
    go_wp2_with fail
    go_ret
    exact ⟨by rw [HR.out]; rfl, rfl⟩
  have HR : Hid (RdS.hexI c = -1) := Lib.hid (by unfold RdS.hexI RdS.hexOf; rw [if_neg h1, if_neg h2, if_neg h3])
  have hc : c.toNat < 48 ∨ (57 < c.toNat ∧ c.toNat < 65) ∨ (70 < c.toNat ∧ c.toNat < 97) ∨ 102 < c.toNat := by omega
  clear h1 h2 h3
  rcases hc with h | ⟨h, h'⟩ | ⟨h, h'⟩ | h
  all_goals
    first | have g1 : (48 : Int) ≤ (c.toNat : Int) := by omega | have g1 : decide ((48 : Int) ≤ (c.toNat : Int)) = false := decide_eq_false (by omega)
    first | have g2 : (c.toNat : Int) ≤ 57 := by omega | have g2 : decide ((c.toNat : Int) ≤ 57) = false := decide_eq_false (by omega)
    first | have g3 : (97 : Int) ≤ (c.toNat : Int) := by omega | have g3 : decide ((97 : Int) ≤ (c.toNat : Int)) = false := decide_eq_false (by omega)
    first | have g4 : (c.toNat : Int) ≤ 102 := by omega | have g4 : decide ((c.toNat : Int) ≤ 102) = false := decide_eq_false (by omega)
    first | have g5 : (65 : Int) ≤ (c.toNat : Int) := by omega | have g5 : decide ((65 : Int) ≤ (c.toNat : Int)) = false := decide_eq_false (by omega)
    first | have g6 : (c.toNat : Int) ≤ 70 := by omega | have g6 : decide ((c.toNat : Int) ≤ 70) = false := decide_eq_false (by omega)
    go_enter Tryz.func169, Tryz.ntmps169
    go_wp2_with fail
    go_ret
    exact ⟨by rw [HR.out]; rfl, rfl⟩
end Go.Proofs.YtjjbkldlgjllnaaGreatDoor
