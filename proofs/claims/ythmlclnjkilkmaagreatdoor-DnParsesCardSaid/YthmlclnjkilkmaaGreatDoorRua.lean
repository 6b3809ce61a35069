/- The walks of 'Lower', the program's and the document's. No condition but that a text's length is a machine's. -/
import Derived.Test.YthmlclnjkilkmaaGreatDoorRuS
import Derived.Test.YthmlclnjkilkmaaGreatDoorMem
namespace Go.Proofs.YthmlclnjkilkmaaGreatDoor
open Go.RowKit

theorem or_dec : ∀ n : Fin 26, bits BinOp.or IntKind.u8 ((n.val + 65 : Nat) : Int) 32 = ((n.val + 97 : Nat) : Int) := by decide
theorem or32 {c : UInt8} (h1 : 65 ≤ c.toNat) (h2 : c.toNat ≤ 90) : bits BinOp.or IntKind.u8 (c.toNat : Int) 32 = ((c.toNat + 32 : Nat) : Int) := by
  have h := or_dec ⟨c.toNat - 65, by omega⟩
  simp only at h
  rw [show c.toNat - 65 + 65 = c.toNat from by omega, show c.toNat - 65 + 97 = c.toNat + 32 from by omega] at h
  exact h

def LowRet (l : List UInt8) (w : World) (e : Ending) (w' : World) : Prop := e = .returned (.string ⟨(RuS.lower l).toArray⟩) ∧ Below w.heap.size w w'
def LowLoop (s : ByteArray) (w : World) (i : Value) (wr : World) : Prop := ∃ k : Nat, k ≤ s.size ∧ i = .int .i64 k ∧ BytesIn wr w.heap.size (RuS.half s.data.toList k) ∧ Below w.heap.size w wr

set_option maxRecDepth 100000 in
theorem lower_c (s : ByteArray) (hs : s.size ≤ 9223372036854775807) (w : World) : Calls Tryz.prog 99 #[.string s] w (LowRet s.data.toList w) := by
  have hconv := fun w => Lib.run_convert_string_bytes (P := Tryz.prog) w 9 110 5 s Tryz.underlying9 Tryz.underlying110 Tryz.underlying5
  have hcap : s.size ≤ grownCap w s.size 0 5 := grownCap_ge _ _ _ _
  have hb0 := BytesIn.conv w 5 s
  have hbw := Lib.bytesWorld_below w 5 s
  go_enter Tryz.func99, Tryz.ntmps99
  go_wp2_with fail
  clear hconv
  generalize grownCap w s.size 0 5 = cap at *
  generalize Lib.bytesWorld w 5 s = w0 at *
  go_loopw [10] (fun i wr => LowLoop s w i wr) (fun i _ => s.size - (intOf i).toNat)
  case atStart => exact ⟨0, Nat.zero_le _, rfl, by rw [RuS.half_zero]; exact hb0, hbw⟩
  case round =>
    obtain ⟨k, hk, rfl, hin, hbl⟩ := hrel
    clear hb0 hbw
    by_cases hlt : k < s.size
    · have hlt2 : k < (RuS.half s.data.toList k).length := by rw [RuS.half_length, ← Lib.size_eq]; exact hlt
      have hc := hin.cell hlt2
      have hf := hin.thaw hlt2
      have hlt3 : k < s.data.toList.length := by rw [← Lib.size_eq]; exact hlt
      rw [RuS.half_at _ _ hlt3] at hc
      have HS := Lib.hid (RuS.half_succ s.data.toList k hlt3)
      have HK := Lib.hid (RuS.half_keep s.data.toList k hlt3)
      generalize s.data.toList[k] = c at *
      clear hlt2 hlt3
      by_cases h1 : 65 ≤ c.toNat
      · by_cases h2 : c.toNat ≤ 90
        · have HO := Lib.hid (or32 h1 h2)
          have HC := Lib.hid (RuS.lowC_toNat h1 h2)
          go_wp2_with fail
          go_roundw
          case rel =>
            refine ⟨k + 1, by omega, by go_num, ?_, hbl.setCell (Nat.le_refl _) _⟩
            rw [HS.out, HO.out, ← HC.out]
            exact hin.put _ _
          case measure => simp [intOf]; omega
        · have HC := Lib.hid (RuS.lowC_no (c := c) (by omega))
          go_wp2_with fail
          go_roundw
          case rel => exact ⟨k + 1, by omega, by go_num, by rw [HK.out HC.out]; exact hin, hbl⟩
          case measure => simp [intOf]; omega
      · have HC := Lib.hid (RuS.lowC_no (c := c) (by omega))
        go_wp2_with fail
        go_roundw
        case rel => exact ⟨k + 1, by omega, by go_num, by rw [HK.out HC.out]; exact hin, hbl⟩
        case measure => simp [intOf]; omega
    · have hall : s.data.toList.length ≤ k := by rw [← Lib.size_eq]; omega
      rw [RuS.half_all _ hall] at hin
      have hback := hin.back (P := Tryz.prog) 110 9 5 s.size cap (by rw [RuS.lower_length, ← Lib.size_eq]) Tryz.underlying110 Tryz.underlying5 Tryz.underlying9
      clear hall
      go_wp2_with fail
      go_ret
      exact ⟨rfl, hbl⟩

set_option maxRecDepth 100000 in
theorem reflower_c (s : ByteArray) (hs : s.size ≤ 9223372036854775807) (w : World) : Calls Tryz.prog 101 #[.string s] w (LowRet s.data.toList w) := by
  have hconv := fun w => Lib.run_convert_string_bytes (P := Tryz.prog) w 9 110 5 s Tryz.underlying9 Tryz.underlying110 Tryz.underlying5
  have hcap : s.size ≤ grownCap w s.size 0 5 := grownCap_ge _ _ _ _
  have hb0 := BytesIn.conv w 5 s
  have hbw := Lib.bytesWorld_below w 5 s
  go_enter Tryz.func101, Tryz.ntmps101
  go_wp2_with fail
  clear hconv
  generalize grownCap w s.size 0 5 = cap at *
  generalize Lib.bytesWorld w 5 s = w0 at *
  go_loopw [9] (fun i wr => LowLoop s w i wr) (fun i _ => s.size - (intOf i).toNat)
  case atStart => exact ⟨0, Nat.zero_le _, rfl, by rw [RuS.half_zero]; exact hb0, hbw⟩
  case round =>
    obtain ⟨k, hk, rfl, hin, hbl⟩ := hrel
    clear hb0 hbw
    by_cases hlt : k < s.size
    · have hlt2 : k < (RuS.half s.data.toList k).length := by rw [RuS.half_length, ← Lib.size_eq]; exact hlt
      have hc := hin.cell hlt2
      have hf := hin.thaw hlt2
      have hlt3 : k < s.data.toList.length := by rw [← Lib.size_eq]; exact hlt
      rw [RuS.half_at _ _ hlt3] at hc
      have HS := Lib.hid (RuS.half_succ s.data.toList k hlt3)
      have HK := Lib.hid (RuS.half_keep s.data.toList k hlt3)
      generalize s.data.toList[k] = c at *
      clear hlt2 hlt3
      by_cases h1 : 65 ≤ c.toNat
      · by_cases h2 : c.toNat ≤ 90
        · have HC := Lib.hid (RuS.lowC_toNat h1 h2)
          go_wp2_with fail
          go_roundw
          case rel =>
            refine ⟨k + 1, by omega, by go_num, ?_, hbl.setCell (Nat.le_refl _) _⟩
            rw [HS.out, show ((c.toNat : Int) + 32) = ((RuS.lowC c).toNat : Int) from by rw [HC.out]; rfl]
            exact hin.put _ _
          case measure => simp [intOf]; omega
        · have HC := Lib.hid (RuS.lowC_no (c := c) (by omega))
          go_wp2_with fail
          go_roundw
          case rel => exact ⟨k + 1, by omega, by go_num, by rw [HK.out HC.out]; exact hin, hbl⟩
          case measure => simp [intOf]; omega
      · have HC := Lib.hid (RuS.lowC_no (c := c) (by omega))
        go_wp2_with fail
        go_roundw
        case rel => exact ⟨k + 1, by omega, by go_num, by rw [HK.out HC.out]; exact hin, hbl⟩
        case measure => simp [intOf]; omega
    · have hall : s.data.toList.length ≤ k := by rw [← Lib.size_eq]; omega
      rw [RuS.half_all _ hall] at hin
      have hback := hin.back (P := Tryz.prog) 110 9 5 s.size cap (by rw [RuS.lower_length, ← Lib.size_eq]) Tryz.underlying110 Tryz.underlying5 Tryz.underlying9
      clear hall
      go_wp2_with fail
      go_ret
      exact ⟨rfl, hbl⟩
end Go.Proofs.YthmlclnjkilkmaaGreatDoor
