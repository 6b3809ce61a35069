/- The walk of 'digits' of the laws of entries. Condition: the number has at most eighteen digits. -/
import Derived.Test.YtmnhgbkdahdoiaaGreatDoorIInc
namespace Go.Proofs.YtmnhgbkdahdoiaaGreatDoor
open Go.RowKit

/-- the digits of m0: those still to be written, those that are -/
def Digs (m0 : Nat) (m : Nat) (s : List UInt8) : Prop := (s = [] ∧ m = m0) ∨ (s ≠ [] ∧ 0 < m ∧ Lib.decDigits m0 = Lib.decDigits m ++ s) ∨ (s ≠ [] ∧ m = 0 ∧ s = Lib.decDigits m0)
theorem Digs.step {m0 m : Nat} {s : List UInt8} (h : Digs m0 m s) (hgo : 0 < m ∨ s = []) : Digs m0 (m / 10) (UInt8.ofNat (48 + m % 10) :: s) := by
  have key : Lib.decDigits m0 = Lib.decDigits m ++ s := by
    rcases h with ⟨rfl, rfl⟩ | ⟨_, _, h⟩ | ⟨h1, rfl, h⟩
    · simp
    · exact h
    · rcases hgo with h2 | h2
      · omega
      · exact absurd h2 h1
  by_cases h10 : m < 10
  · right; right
    refine ⟨by simp, by omega, ?_⟩
    rw [key, Lib.decDigits_one h10, Nat.mod_eq_of_lt h10]; rfl
  · right; left
    refine ⟨by simp, by omega, ?_⟩
    rw [key, Lib.decDigits, dif_neg h10]; simp
theorem Digs.done {m0 : Nat} {s : List UInt8} (h : Digs m0 0 s) (hs : s ≠ []) : s = Lib.decDigits m0 := by
  rcases h with ⟨h, _⟩ | ⟨_, h, _⟩ | ⟨_, _, h⟩
  · exact absurd h hs
  · omega
  · exact h

theorem Digs.len {m0 m : Nat} {s : List UInt8} (h : Digs m0 m s) (hm : m0 < 1000000000000000000) : s.length ≤ 18 := by
  have h18 := (RuS.dec18 m0).2 hm
  rcases h with ⟨rfl, _⟩ | ⟨_, _, h⟩ | ⟨_, _, h⟩
  · simp
  · rw [h, List.length_append] at h18; omega
  · rw [h]; exact h18
theorem one_back (w : World) (c : UInt8) (z : Int) (hz : z = (c.toNat : Int)) :
    (convert 62 9 (.slice (some ⟨w.heap.size, 0, none⟩) 1 1)).run Tryz.prog (w.alloc (.cells #[.int .u8 z] 5)) = .ok (.string ⟨[c].toArray⟩) (w.alloc (.cells #[.int .u8 z] 5)) := by
  subst hz
  refine run_convert_bytes_back _ _ _ 5 ⟨w.heap.size, 0, none⟩ 1 [c] Tryz.underlying62 Tryz.underlying5 Tryz.underlying9 fun j hj => ?_
  have hj0 : j = 0 := by simpa using hj
  subst hj0
  have hadd : (⟨w.heap.size, 0, none⟩ : Addr).add 0 = ⟨w.heap.size, 0, none⟩ := by unfold Addr.add; split <;> simp_all
  rw [hadd]
  exact (Whole.made w 5 #[.int .u8 (c.toNat : Int)]).cell 0
theorem dig_val (k : Nat) : (48 + (k : Int) % 10) = ((UInt8.ofNat (48 + k % 10)).toNat : Int) := by
  rw [UInt8.toNat_ofNat']; omega

def DigLoop (m0 : Nat) (w : World) (s m : Value) (wr : World) : Prop := ∃ (k : Nat) (l : List UInt8), k ≤ m0 ∧ s = .string ⟨l.toArray⟩ ∧ m = .int .i64 k ∧ Digs m0 k l ∧ Below w.heap.size w wr

set_option maxRecDepth 100000 in
theorem digits9_pos (m0 : Nat) (h : m0 < 1000000000000000000) (w : World) : Calls Tryz.prog 19 #[.int .i64 (m0 : Int)] w fun e w' => e = .returned (.string ⟨(Lib.decDigits m0).toArray⟩) ∧ Below w.heap.size w w' := by
  have hmx : max (m0 : Int) (-(m0 : Int)) = (m0 : Int) := by omega
  go_enter Tryz.func19, Tryz.ntmps19
  go_wp2_with fail
  go_loopw [3, 4] (fun s m wr => DigLoop m0 w s m wr) (fun s m _ => (intOf m).toNat + (match s with | .string b => if b.size = 0 then 1 else 0 | _ => 0))
  case atStart => exact ⟨m0, [], Nat.le_refl _, rfl, rfl, .inl ⟨rfl, rfl⟩, Below.refl _ _⟩
  case round =>
    obtain ⟨k, l, hk, rfl, rfl, hdg, hb⟩ := hrel
    have hll := hdg.len h
    have HD := Lib.hid hdg
    clear hdg hmx
    by_cases hpos : 0 < k
    · have HG := Lib.hid (HD.out.step (.inl hpos))
      have hdk : decide ((0 : Int) < (k : Int)) = true := decide_eq_true (by omega)
      have hconv := fun w => one_back w (UInt8.ofNat (48 + k % 10)) (48 + (k : Int) % 10) (dig_val k)
      generalize UInt8.ofNat (48 + k % 10) = c at *
      go_wp2_with fail
      go_roundw
      case rel =>
        exact ⟨k / 10, c :: l, by omega, by rw [mk_append]; rfl, by go_num, HG.out, hb.alloc hb.size _⟩
      case measure =>
        have hne : ¬ ((⟨#[c]⟩ ++ ⟨l.toArray⟩ : ByteArray).size = 0) := by
          rw [ByteArray.size_append]
          show ¬ (1 + _ = 0)
          omega
        show ((k : Int) / 10).toNat + (if (⟨#[c]⟩ ++ ⟨l.toArray⟩ : ByteArray).size = 0 then 1 else 0) < (k : Int).toNat + (if (⟨l.toArray⟩ : ByteArray).size = 0 then 1 else 0)
        rw [if_neg hne]
        omega
    · have hk0 : k = 0 := by omega
      subst hk0
      by_cases hl0 : l = []
      · subst hl0
        have HG := Lib.hid (HD.out.step (.inr rfl))
        have hconv := fun w => one_back w 48 48 rfl
        go_wp2_with fail
        go_roundw
        case rel => exact ⟨0, [48], by omega, rfl, rfl, HG.out, hb.alloc hb.size _⟩
        case measure => show 0 + (if (⟨#[48]⟩ ++ ⟨#[]⟩ : ByteArray).size = 0 then 1 else 0) < 0 + 1; decide
      · have hl1 : l.isEmpty = false := by cases l with
          | nil => exact absurd rfl hl0
          | cons a b => rfl
        have HDN := Lib.hid (HD.out.done hl0)
        clear hl0
        go_wp2_with fail
        go_ret
        exact ⟨by rw [HDN.out]; rfl, hb⟩
set_option maxRecDepth 100000 in
theorem digits9_neg (m0 : Nat) (h : m0 < 1000000000000000000) (hm0 : 0 < m0) (w : World) : Calls Tryz.prog 19 #[.int .i64 (-(m0 : Int))] w fun e w' => e = .returned (.string ⟨(45 :: Lib.decDigits m0).toArray⟩) ∧ Below w.heap.size w w' := by
  have hmx : max (-(m0 : Int)) (m0 : Int) = (m0 : Int) := by omega
  go_enter Tryz.func19, Tryz.ntmps19
  go_wp2_with fail
  go_loopw [3, 4] (fun s m wr => DigLoop m0 w s m wr) (fun s m _ => (intOf m).toNat + (match s with | .string b => if b.size = 0 then 1 else 0 | _ => 0))
  case atStart => exact ⟨m0, [], Nat.le_refl _, rfl, rfl, .inl ⟨rfl, rfl⟩, Below.refl _ _⟩
  case round =>
    obtain ⟨k, l, hk, rfl, rfl, hdg, hb⟩ := hrel
    have hll := hdg.len h
    have HD := Lib.hid hdg
    clear hdg hmx
    by_cases hpos : 0 < k
    · have HG := Lib.hid (HD.out.step (.inl hpos))
      have hdk : decide ((0 : Int) < (k : Int)) = true := decide_eq_true (by omega)
      have hconv := fun w => one_back w (UInt8.ofNat (48 + k % 10)) (48 + (k : Int) % 10) (dig_val k)
      generalize UInt8.ofNat (48 + k % 10) = c at *
      go_wp2_with fail
      go_roundw
      case rel =>
        exact ⟨k / 10, c :: l, by omega, by rw [mk_append]; rfl, by go_num, HG.out, hb.alloc hb.size _⟩
      case measure =>
        have hne : ¬ ((⟨#[c]⟩ ++ ⟨l.toArray⟩ : ByteArray).size = 0) := by
          rw [ByteArray.size_append]
          show ¬ (1 + _ = 0)
          omega
        show ((k : Int) / 10).toNat + (if (⟨#[c]⟩ ++ ⟨l.toArray⟩ : ByteArray).size = 0 then 1 else 0) < (k : Int).toNat + (if (⟨l.toArray⟩ : ByteArray).size = 0 then 1 else 0)
        rw [if_neg hne]
        omega
    · have hk0 : k = 0 := by omega
      subst hk0
      by_cases hl0 : l = []
      · subst hl0
        have HG := Lib.hid (HD.out.step (.inr rfl))
        have hconv := fun w => one_back w 48 48 rfl
        go_wp2_with fail
        go_roundw
        case rel => exact ⟨0, [48], by omega, rfl, rfl, HG.out, hb.alloc hb.size _⟩
        case measure => show 0 + (if (⟨#[48]⟩ ++ ⟨#[]⟩ : ByteArray).size = 0 then 1 else 0) < 0 + 1; decide
      · have hl1 : l.isEmpty = false := by cases l with
          | nil => exact absurd rfl hl0
          | cons a b => rfl
        have HDN := Lib.hid (HD.out.done hl0)
        clear hl0
        go_wp2_with fail
        go_ret
        have HQ : (⟨#[45]⟩ ++ ⟨l.toArray⟩ : ByteArray) = ⟨(45 :: Lib.decDigits m0).toArray⟩ := by rw [← HDN.out]; exact mk_append [45] l
        exact ⟨by rw [← HQ]; rfl, hb⟩

theorem digits9_c (n : Int) (h : n.natAbs < 1000000000000000000) (w : World) : Calls Tryz.prog 19 #[.int .i64 n] w fun e w' => e = .returned (.string ⟨(Lib.itoa n).toArray⟩) ∧ Below w.heap.size w w' := by
  by_cases hn : n < 0
  · have := digits9_neg n.natAbs h (by omega) w
    rw [show (-(n.natAbs : Int)) = n from by omega] at this
    rw [PhS.itoa_neg hn]; exact this
  · have := digits9_pos n.toNat (by omega) w
    rw [show ((n.toNat : Nat) : Int) = n from by omega] at this
    rw [PhS.itoa_nonneg (by omega)]; exact this

end Go.Proofs.YtmnhgbkdahdoiaaGreatDoor
