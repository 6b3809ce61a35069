/- The walks of 'digits' and of the law of integers. Condition: the library's variables are laid. -/
import Derived.Test.YtjjbkldlgjllnaaGreatDoorRuk
namespace Go.Proofs.YtjjbkldlgjllnaaGreatDoor
open Go.RowKit

/-- the digits of m0: those still to be written, those that are -/
def Digs (m0 : Nat) (m : Nat) (s : List UInt8) : Prop := (s = [] ∧ m = m0) ∨ (s ≠ [] ∧ 0 < m ∧ Lib.decDigits m0 = Lib.decDigits m ++ s) ∨ (s ≠ [] ∧ m = 0 ∧ s = Lib.decDigits m0)
theorem Digs.step {m0 m : Nat} {s : List UInt8} (h : Digs m0 m s) (hgo : 0 < m ∨ s = []) : Digs m0 (m / 10) (UInt8.ofNat (48 + m % 10) :: s) := by
  have key : Lib.decDigits m0 = Lib.decDigits m ++ s := by
    rcases h with ⟨rfl, rfl⟩ | ⟨_, _, h⟩ | ⟨h1, rfl, h⟩
    · simp
    · exact h
    · rcases hgo with h2 | h2
      · omega
      · exact absurd h2 h1
  by_cases h10 : m < 10
  · right; right
    refine ⟨by simp, by omega, ?_⟩
    rw [key, Lib.decDigits_one h10, Nat.mod_eq_of_lt h10]; rfl
  · right; left
    refine ⟨by simp, by omega, ?_⟩
    rw [key, Lib.decDigits, dif_neg h10]; simp
theorem Digs.done {m0 : Nat} {s : List UInt8} (h : Digs m0 0 s) (hs : s ≠ []) : s = Lib.decDigits m0 := by
  rcases h with ⟨h, _⟩ | ⟨_, h, _⟩ | ⟨_, _, h⟩
  · exact absurd h hs
  · omega
  · exact h

theorem Digs.len {m0 m : Nat} {s : List UInt8} (h : Digs m0 m s) (hm : m0 < 1000000000000000000) : s.length ≤ 18 := by
  have h18 := (RuS.dec18 m0).2 hm
  rcases h with ⟨rfl, _⟩ | ⟨_, _, h⟩ | ⟨_, _, h⟩
  · simp
  · rw [h, List.length_append] at h18; omega
  · rw [h]; exact h18
theorem one_back (w : World) (c : UInt8) (z : Int) (hz : z = (c.toNat : Int)) :
    (convert 100 9 (.slice (some ⟨w.heap.size, 0, none⟩) 1 1)).run Tryz.prog (w.alloc (.cells #[.int .u8 z] 5)) = .ok (.string ⟨[c].toArray⟩) (w.alloc (.cells #[.int .u8 z] 5)) := by
  subst hz
  refine run_convert_bytes_back _ _ _ 5 ⟨w.heap.size, 0, none⟩ 1 [c] Tryz.underlying100 Tryz.underlying5 Tryz.underlying9 fun j hj => ?_
  have hj0 : j = 0 := by simpa using hj
  subst hj0
  have hadd : (⟨w.heap.size, 0, none⟩ : Addr).add 0 = ⟨w.heap.size, 0, none⟩ := by unfold Addr.add; split <;> simp_all
  rw [hadd]
  exact (Whole.made w 5 #[.int .u8 (c.toNat : Int)]).cell 0
theorem dig_val (k : Nat) : (48 + (k : Int) % 10) = ((UInt8.ofNat (48 + k % 10)).toNat : Int) := by
  rw [UInt8.toNat_ofNat']; omega

theorem normal_serial {n : Int} (h : n.natAbs < 1000000000000000000) : RuS.normal [115, 101, 114, 105, 97, 108, 78, 117, 109, 98, 101, 114] (Lib.itoa n) = (Lib.itoa n, 0) := by
  have ht : (RuS.typeOf [115, 101, 114, 105, 97, 108, 78, 117, 109, 98, 101, 114]).2 = 3 := by decide +kernel
  have hl := PhS.itoa_len (n := n) (by omega)
  have hp : 1 ≤ (Lib.itoa n).length := List.length_pos_iff.2 (PhS.itoa_ne n)
  refine RuS.normal_of (by rw [ht]; decide) hp (by omega) ?_
  rw [ht]
  show (if (RuS.intS (Lib.itoa n)).isSome then some (Lib.itoa n) else none) = _
  rw [RuS.intS_iff.2 ⟨rfl, h⟩]; rfl
theorem cmp_serial {m n : Int} (hm : m.natAbs < 1000000000000000000) (hn : n.natAbs < 1000000000000000000) :
    cmpB [115, 101, 114, 105, 97, 108, 78, 117, 109, 98, 101, 114] (Lib.itoa m) (Lib.itoa n) = cmpI m n ∧ errB [115, 101, 114, 105, 97, 108, 78, 117, 109, 98, 101, 114] (Lib.itoa m) (Lib.itoa n) = 0 := by
  have e : errB [115, 101, 114, 105, 97, 108, 78, 117, 109, 98, 101, 114] (Lib.itoa m) (Lib.itoa n) = 0 := by
    rw [errB_zero, normal_serial hm, normal_serial hn]; exact ⟨rfl, rfl⟩
  refine ⟨?_, e⟩
  unfold cmpB
  rw [if_pos e, normal_serial hm, normal_serial hn]
  have ht : (RuS.typeOf [115, 101, 114, 105, 97, 108, 78, 117, 109, 98, 101, 114]).2 = 3 := by decide +kernel
  rw [ht]
  show cmpI ((RuS.intS (Lib.itoa m)).getD 0) ((RuS.intS (Lib.itoa n)).getD 0) = _
  rw [RuS.intS_iff.2 ⟨rfl, hm⟩, RuS.intS_iff.2 ⟨rfl, hn⟩]; rfl

def DigLoop (m0 : Nat) (w : World) (s m : Value) (wr : World) : Prop := ∃ (k : Nat) (l : List UInt8), k ≤ m0 ∧ s = .string ⟨l.toArray⟩ ∧ m = .int .i64 k ∧ Digs m0 k l ∧ Below w.heap.size w wr

set_option maxRecDepth 100000 in
theorem digits_pos (m0 : Nat) (h : m0 < 1000000000000000000) (w : World) : Calls Tryz.prog 29 #[.int .i64 (m0 : Int)] w fun e w' => e = .returned (.string ⟨(Lib.decDigits m0).toArray⟩) ∧ Below w.heap.size w w' := by
  have hmx : max (m0 : Int) (-(m0 : Int)) = (m0 : Int) := by omega
  go_enter Tryz.func29, Tryz.ntmps29
  go_wp2_with fail
  go_loopw [3, 4] (fun s m wr => DigLoop m0 w s m wr) (fun s m _ => (intOf m).toNat + (match s with | .string b => if b.size = 0 then 1 else 0 | _ => 0))
  case atStart => exact ⟨m0, [], Nat.le_refl _, rfl, rfl, .inl ⟨rfl, rfl⟩, Below.refl _ _⟩
  case round =>
    obtain ⟨k, l, hk, rfl, rfl, hdg, hb⟩ := hrel
    have hll := hdg.len h
    have HD := Lib.hid hdg
    clear hdg hmx
    by_cases hpos : 0 < k
    · have HG := Lib.hid (HD.out.step (.inl hpos))
      have hdk : decide ((0 : Int) < (k : Int)) = true := decide_eq_true (by omega)
      have hconv := fun w => one_back w (UInt8.ofNat (48 + k % 10)) (48 + (k : Int) % 10) (dig_val k)
      generalize UInt8.ofNat (48 + k % 10) = c at *
      go_wp2_with fail
      go_roundw
      case rel =>
        exact ⟨k / 10, c :: l, by omega, by rw [mk_append]; rfl, by go_num, HG.out, hb.alloc hb.size _⟩
      case measure =>
        have hne : ¬ ((⟨#[c]⟩ ++ ⟨l.toArray⟩ : ByteArray).size = 0) := by
          rw [ByteArray.size_append]
          show ¬ (1 + _ = 0)
          omega
        show ((k : Int) / 10).toNat + (if (⟨#[c]⟩ ++ ⟨l.toArray⟩ : ByteArray).size = 0 then 1 else 0) < (k : Int).toNat + (if (⟨l.toArray⟩ : ByteArray).size = 0 then 1 else 0)
        rw [if_neg hne]
        omega
    · have hk0 : k = 0 := by omega
      subst hk0
      by_cases hl0 : l = []
      · subst hl0
        have HG := Lib.hid (HD.out.step (.inr rfl))
        have hconv := fun w => one_back w 48 48 rfl
        go_wp2_with fail
        go_roundw
        case rel => exact ⟨0, [48], by omega, rfl, rfl, HG.out, hb.alloc hb.size _⟩
        case measure => show 0 + (if (⟨#[48]⟩ ++ ⟨#[]⟩ : ByteArray).size = 0 then 1 else 0) < 0 + 1; decide
      · have hl1 : l.isEmpty = false := by cases l with
          | nil => exact absurd rfl hl0
          | cons a b => rfl
        have HDN := Lib.hid (HD.out.done hl0)
        clear hl0
        go_wp2_with fail
        go_ret
        exact ⟨by rw [HDN.out]; rfl, hb⟩
set_option maxRecDepth 100000 in
theorem digits_neg (m0 : Nat) (h : m0 < 1000000000000000000) (hm0 : 0 < m0) (w : World) : Calls Tryz.prog 29 #[.int .i64 (-(m0 : Int))] w fun e w' => e = .returned (.string ⟨(45 :: Lib.decDigits m0).toArray⟩) ∧ Below w.heap.size w w' := by
  have hmx : max (-(m0 : Int)) (m0 : Int) = (m0 : Int) := by omega
  go_enter Tryz.func29, Tryz.ntmps29
  go_wp2_with fail
  go_loopw [3, 4] (fun s m wr => DigLoop m0 w s m wr) (fun s m _ => (intOf m).toNat + (match s with | .string b => if b.size = 0 then 1 else 0 | _ => 0))
  case atStart => exact ⟨m0, [], Nat.le_refl _, rfl, rfl, .inl ⟨rfl, rfl⟩, Below.refl _ _⟩
  case round =>
    obtain ⟨k, l, hk, rfl, rfl, hdg, hb⟩ := hrel
    have hll := hdg.len h
    have HD := Lib.hid hdg
    clear hdg hmx
    by_cases hpos : 0 < k
    · have HG := Lib.hid (HD.out.step (.inl hpos))
      have hdk : decide ((0 : Int) < (k : Int)) = true := decide_eq_true (by omega)
      have hconv := fun w => one_back w (UInt8.ofNat (48 + k % 10)) (48 + (k : Int) % 10) (dig_val k)
      generalize UInt8.ofNat (48 + k % 10) = c at *
      go_wp2_with fail
      go_roundw
      case rel =>
        exact ⟨k / 10, c :: l, by omega, by rw [mk_append]; rfl, by go_num, HG.out, hb.alloc hb.size _⟩
      case measure =>
        have hne : ¬ ((⟨#[c]⟩ ++ ⟨l.toArray⟩ : ByteArray).size = 0) := by
          rw [ByteArray.size_append]
          show ¬ (1 + _ = 0)
          omega
        show ((k : Int) / 10).toNat + (if (⟨#[c]⟩ ++ ⟨l.toArray⟩ : ByteArray).size = 0 then 1 else 0) < (k : Int).toNat + (if (⟨l.toArray⟩ : ByteArray).size = 0 then 1 else 0)
        rw [if_neg hne]
        omega
    · have hk0 : k = 0 := by omega
      subst hk0
      by_cases hl0 : l = []
      · subst hl0
        have HG := Lib.hid (HD.out.step (.inr rfl))
        have hconv := fun w => one_back w 48 48 rfl
        go_wp2_with fail
        go_roundw
        case rel => exact ⟨0, [48], by omega, rfl, rfl, HG.out, hb.alloc hb.size _⟩
        case measure => show 0 + (if (⟨#[48]⟩ ++ ⟨#[]⟩ : ByteArray).size = 0 then 1 else 0) < 0 + 1; decide
      · have hl1 : l.isEmpty = false := by cases l with
          | nil => exact absurd rfl hl0
          | cons a b => rfl
        have HDN := Lib.hid (HD.out.done hl0)
        clear hl0
        go_wp2_with fail
        go_ret
        have HQ : (⟨#[45]⟩ ++ ⟨l.toArray⟩ : ByteArray) = ⟨(45 :: Lib.decDigits m0).toArray⟩ := by rw [← HDN.out]; exact mk_append [45] l
        exact ⟨by rw [← HQ]; rfl, hb⟩

theorem digits_c (n : Int) (h : n.natAbs < 1000000000000000000) (w : World) : Calls Tryz.prog 29 #[.int .i64 n] w fun e w' => e = .returned (.string ⟨(Lib.itoa n).toArray⟩) ∧ Below w.heap.size w w' := by
  by_cases hn : n < 0
  · have := digits_neg n.natAbs h (by omega) w
    rw [show (-(n.natAbs : Int)) = n from by omega] at this
    rw [PhS.itoa_neg hn]; exact this
  · have := digits_pos n.toNat (by omega) w
    rw [show ((n.toNat : Nat) : Int) = n from by omega] at this
    rw [PhS.itoa_nonneg (by omega)]; exact this

theorem tmod18 (a : Int) : (a.tmod 1000000000000000000).natAbs < 1000000000000000000 := by
  have h1 := Int.tmod_lt_of_pos a (b := 1000000000000000000) (by decide)
  have h2 := Int.lt_tmod_of_pos a (b := 1000000000000000000) (by decide)
  omega

set_option maxRecDepth 100000 in
theorem integers_c (a b : Int) (w : World) (hE : Env w) : Calls Tryz.prog 6 #[.int .i64 a, .int .i64 b] w (True_ w) := by
  have ha := tmod18 a
  have hb := tmod18 b
  go_enter Tryz.func6, Tryz.ntmps6
  go_wp2_with fail
  refine (awake04_c _ hE).mono ?_; rintro e w1 ⟨rfl, hb1⟩
  go_wp2_with fail
  generalize a.tmod 1000000000000000000 = m at *
  generalize b.tmod 1000000000000000000 = n at *
  have d1 := digits_c m ha
  have d2 := digits_c n hb
  have hlm := PhS.itoa_len (n := m) (by omega)
  have hln := PhS.itoa_len (n := n) (by omega)
  have hc := fun w hE => rulecompare_c ⟨#[115, 101, 114, 105, 97, 108, 78, 117, 109, 98, 101, 114]⟩ ⟨(Lib.itoa m).toArray⟩ ⟨(Lib.itoa n).toArray⟩ (by decide) (by show (Lib.itoa m).length ≤ _; omega) (by show (Lib.itoa n).length ≤ _; omega) w hE
  unfold CmpRet at hc
  have e1 : (⟨#[115, 101, 114, 105, 97, 108, 78, 117, 109, 98, 101, 114]⟩ : ByteArray).data.toList = [115, 101, 114, 105, 97, 108, 78, 117, 109, 98, 101, 114] := rfl
  have e2 : ∀ l : List UInt8, (⟨l.toArray⟩ : ByteArray).data.toList = l := fun _ => rfl
  rw [e1, e2, e2, (cmp_serial ha hb).1, (cmp_serial ha hb).2] at hc
  clear e1 e2 ha hb hlm hln
  generalize Lib.itoa m = im at *
  generalize Lib.itoa n = inn at *
  have hci : (m < n ∧ cmpI m n = -1) ∨ (m = n ∧ cmpI m n = 0) ∨ (n < m ∧ cmpI m n = 1) := by
    rcases Int.lt_trichotomy m n with h | h | h
    · exact .inl ⟨h, by unfold cmpI; rw [if_pos h]⟩
    · exact .inr (.inl ⟨h, cmpI_zero.2 h⟩)
    · exact .inr (.inr ⟨h, by unfold cmpI; rw [if_neg (by omega), if_pos h]⟩)
  have HCI := Lib.hid hci
  clear hci
  refine (d1 _).mono ?_; rintro e w2 ⟨rfl, hb2⟩
  go_wp2_with fail
  refine (d2 _).mono ?_; rintro e w3 ⟨rfl, hb3⟩
  go_wp2_with fail
  refine (hc _ (((hE.below hb1).below hb2).below hb3)).mono ?_; rintro e w4 ⟨rfl, hb4⟩
  have hb5 := below_trans hb1 (below_trans hb2 (below_trans hb3 hb4))
  rcases HCI.out with ⟨h, e⟩ | ⟨h, e⟩ | ⟨h, e⟩
  · rw [e]
    clear e
    go_wp2_with fail
    go_ret
    exact ⟨rfl, hb5⟩
  · rw [e]
    clear e
    subst h
    go_wp2_with fail
    go_ret
    exact ⟨rfl, hb5⟩
  · rw [e]
    clear e
    go_wp2_with fail
    go_ret
    exact ⟨rfl, hb5⟩
end Go.Proofs.YtjjbkldlgjllnaaGreatDoor
