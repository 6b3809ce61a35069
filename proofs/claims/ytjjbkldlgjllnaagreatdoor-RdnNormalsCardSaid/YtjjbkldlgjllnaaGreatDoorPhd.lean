/- The walk of the reference's 'number': what it reads of any text. No condition but that a text's length is a machine's. -/
import Derived.Test.YtjjbkldlgjllnaaGreatDoorPhc
namespace Go.Proofs.YtjjbkldlgjllnaaGreatDoor
open Go.RowKit

def NumLoop (u : ByteArray) (n i : Value) : Prop := ∃ k : Nat, k ≤ u.size ∧ i = .int .i64 k ∧ n = .int .i64 (PhS.valFrom 0 (u.data.toList.take k)) ∧ (u.data.toList.take k).all PhS.isDig = true
def NumRet (l : List UInt8) (w : World) (e : Ending) (w' : World) : Prop := e = .returned (.tuple #[.int .i64 (PhS.numV l), .bool (PhS.numOk l)]) ∧ w = w'
theorem NumRet.yes {l : List UInt8} {w : World} {v : Int} (h : PhS.numS l = some v) : NumRet l w (.returned (.tuple #[.int .i64 v, .bool true])) w := by
  refine ⟨?_, rfl⟩; unfold PhS.numV PhS.numOk; rw [h]; rfl
theorem NumRet.no {l : List UInt8} {w : World} (h : PhS.numS l = none) : NumRet l w (.returned (.tuple #[.int .i64 0, .bool false])) w := by
  refine ⟨?_, rfl⟩; unfold PhS.numV PhS.numOk; rw [h]; rfl

theorem first_of {s : ByteArray} (h : 0 < s.size) : ∃ r, s.data.toList = s[0] :: r := by
  obtain ⟨⟨l⟩⟩ := s
  cases l with
  | nil => exact absurd h (by decide)
  | cons c r => exact ⟨r, rfl⟩
theorem u8_of {c : UInt8} {n : Nat} (hn : n < 256) (h : (c.toNat : Int) = n) : c = UInt8.ofNat n := by
  apply UInt8.toNat_inj.1
  rw [UInt8.toNat_ofNat']; omega
theorem bare_sign {s : ByteArray} (h : 0 < s.size) (hs : (s[0].toNat : Int) = 45 ∨ (s[0].toNat : Int) = 43) : PhS.bare s.data.toList = (s.extract 1 s.size).data.toList := by
  obtain ⟨r, hr⟩ := first_of h
  rw [Lib.extract_to_end, hr]
  have : PhS.isSign s[0] = true := by
    rcases hs with h | h
    · rw [u8_of (n := 45) (by decide) h]; rfl
    · rw [u8_of (n := 43) (by decide) h]; rfl
  unfold PhS.bare
  simp only
  rw [this]; rfl
theorem bare_none {s : ByteArray} (h : 0 < s.size) (h1 : ¬ (s[0].toNat : Int) = 45) (h2 : ¬ (s[0].toNat : Int) = 43) : PhS.bare s.data.toList = s.data.toList := by
  obtain ⟨r, hr⟩ := first_of h
  rw [hr]
  have : PhS.isSign s[0] = false := by
    unfold PhS.isSign
    rw [Bool.or_eq_false_iff, beq_eq_false_iff_ne, beq_eq_false_iff_ne]
    exact ⟨fun e => h2 (by rw [e]; rfl), fun e => h1 (by rw [e]; rfl)⟩
  unfold PhS.bare
  simp only
  rw [this]; rfl
theorem head_is {s : ByteArray} (h : 0 < s.size) : s.data.toList.head? = some s[0] := by
  obtain ⟨r, hr⟩ := first_of h
  rw [hr]; rfl
theorem dig_fact {c : UInt8} (h : 48 ≤ (c.toNat : Int) ∧ (c.toNat : Int) ≤ 57) : PhS.isDig c = true := decide_eq_true (by omega)
theorem dig_not {c : UInt8} (h : ¬ (48 ≤ (c.toNat : Int) ∧ (c.toNat : Int) ≤ 57)) : PhS.isDig c = false := decide_eq_false (by omega)
theorem all_not (u : ByteArray) (k : Nat) (hk : k < u.size) (h : PhS.isDig u[k] = false) : u.data.toList.all PhS.isDig = false := by
  rw [List.all_eq_false]
  exact ⟨u[k], List.getElem_mem (by simpa using hk), by rw [h]; simp⟩
theorem int_cast {k : IntKind} {a b : Int} (h : a = b) : Value.int k a = Value.int k b := by rw [h]

set_option maxRecDepth 100000 in
theorem number_empty (s : ByteArray) (h0 : s.size = 0) (w : World) : Calls Tryz.prog 116 #[.string s] w (NumRet s.data.toList w) := by
  have hs : s = ByteArray.empty := by
    obtain ⟨⟨l⟩⟩ := s
    cases l with
    | nil => rfl
    | cons c r => have h1 : (c :: r).length = 0 := h0; cases h1
  subst hs
  go_enter Tryz.func116, Tryz.ntmps116
  go_wp2_with fail
  go_ret2
  exact NumRet.no rfl
set_option maxRecDepth 100000 in
set_option linter.unusedVariables false in
theorem number_neg (s : ByteArray) (h1 : 2 ≤ s.size) (hm : s.size ≤ 10) (c45 : (s[0].toNat : Int) = 45) (w : World) :
    Calls Tryz.prog 116 #[.string s] w (NumRet s.data.toList w) := by
  have HB := Lib.hid (bare_sign (s := s) (by omega) (.inl c45))
  have HH : s.data.toList.head? = some 45 := by rw [head_is (by omega), u8_of (n := 45) (by decide) c45]; rfl
  have HH := Lib.hid HH
  go_enter Tryz.func116, Tryz.ntmps116
  go_wp2_with fail
  have hu1 : (s.extract 1 s.size).size ≤ 9 := by simp; omega
  have hu2 : 1 ≤ (s.extract 1 s.size).size := by simp; omega
  generalize s.extract 1 s.size = u at *
  clear c45
  go_loop [4, 6] (fun n i => NumLoop u n i) (fun _ i => u.size - (intOf i).toNat)
  case atStart => exact ⟨0, Nat.zero_le _, rfl, rfl, rfl⟩
  case round =>
    obtain ⟨k, hk, rfl, rfl, hd⟩ := hrel
    have hv : PhS.valFrom 0 (u.data.toList.take k) < 1000000000 := by
      have := PhS.valFrom_lt _ hd
      have h2 : (u.data.toList.take k).length ≤ 9 := by simp; omega
      have h3 : 10 ^ (u.data.toList.take k).length ≤ 10 ^ 9 := Nat.pow_le_pow_right (by decide) h2
      omega
    by_cases hlt : k < u.size
    · have HT := Lib.hid (PhS.take_snoc u k hlt)
      have HD := Lib.hid hd
      clear hd
      generalize hvv : PhS.valFrom 0 (u.data.toList.take k) = v at *
      have HV := Lib.hid hvv
      clear hvv
      by_cases hdig : 48 ≤ (u[k].toNat : Int) ∧ (u[k].toNat : Int) ≤ 57
      · have HG := Lib.hid (dig_fact hdig)
        have HQ := Lib.hid hdig
        obtain ⟨d1, d2⟩ := hdig
        go_wp2
        go_round
        case rel =>
          refine ⟨k + 1, by omega, by go_num, int_cast ?_, ?_⟩
          · rw [HT.out, PhS.valFrom_snoc, HV.out]
            have := HQ.out
            omega
          · rw [HT.out, List.all_append, HD.out]; simp [HG.out]
        case measure => simp [intOf]; omega
      · have hno := all_not u k hlt (dig_not hdig)
        have HN := Lib.hid (PhS.numS_no HB.out (.inr (.inr hno)))
        clear hno
        go_wp2
        all_goals go_ret2
        all_goals exact NumRet.no HN.out
    · have hku : k = u.size := by omega
      have hall : u.data.toList.take k = u.data.toList := List.take_of_length_le (by simp; omega)
      rw [hall] at hd hv ⊢
      have hlen : u.data.toList.length = u.size := (Lib.size_eq u).symm
      have HY := Lib.hid (PhS.numS_yes HB.out (by omega) (by omega) hd)
      clear hall hd hlen
      generalize PhS.valFrom 0 u.data.toList = v at *
      subst hku
      go_wp2
      go_ret2
      exact NumRet.yes (by rw [HY.out]; rw [if_pos HH.out])
set_option maxRecDepth 100000 in
set_option linter.unusedVariables false in
theorem number_plus (s : ByteArray) (h1 : 2 ≤ s.size) (hm : s.size ≤ 10) (c43 : (s[0].toNat : Int) = 43) (w : World) :
    Calls Tryz.prog 116 #[.string s] w (NumRet s.data.toList w) := by
  have HB := Lib.hid (bare_sign (s := s) (by omega) (.inr c43))
  have HH : ¬ s.data.toList.head? = some 45 := by rw [head_is (by omega), u8_of (n := 43) (by decide) c43]; decide
  have HH := Lib.hid HH
  go_enter Tryz.func116, Tryz.ntmps116
  go_wp2_with fail
  have hu1 : (s.extract 1 s.size).size ≤ 9 := by simp; omega
  have hu2 : 1 ≤ (s.extract 1 s.size).size := by simp; omega
  generalize s.extract 1 s.size = u at *
  clear c43
  go_loop [4, 6] (fun n i => NumLoop u n i) (fun _ i => u.size - (intOf i).toNat)
  case atStart => exact ⟨0, Nat.zero_le _, rfl, rfl, rfl⟩
  case round =>
    obtain ⟨k, hk, rfl, rfl, hd⟩ := hrel
    have hv : PhS.valFrom 0 (u.data.toList.take k) < 1000000000 := by
      have := PhS.valFrom_lt _ hd
      have h2 : (u.data.toList.take k).length ≤ 9 := by simp; omega
      have h3 : 10 ^ (u.data.toList.take k).length ≤ 10 ^ 9 := Nat.pow_le_pow_right (by decide) h2
      omega
    by_cases hlt : k < u.size
    · have HT := Lib.hid (PhS.take_snoc u k hlt)
      have HD := Lib.hid hd
      clear hd
      generalize hvv : PhS.valFrom 0 (u.data.toList.take k) = v at *
      have HV := Lib.hid hvv
      clear hvv
      by_cases hdig : 48 ≤ (u[k].toNat : Int) ∧ (u[k].toNat : Int) ≤ 57
      · have HG := Lib.hid (dig_fact hdig)
        have HQ := Lib.hid hdig
        obtain ⟨d1, d2⟩ := hdig
        go_wp2
        go_round
        case rel =>
          refine ⟨k + 1, by omega, by go_num, int_cast ?_, ?_⟩
          · rw [HT.out, PhS.valFrom_snoc, HV.out]
            have := HQ.out
            omega
          · rw [HT.out, List.all_append, HD.out]; simp [HG.out]
        case measure => simp [intOf]; omega
      · have hno := all_not u k hlt (dig_not hdig)
        have HN := Lib.hid (PhS.numS_no HB.out (.inr (.inr hno)))
        clear hno
        go_wp2
        all_goals go_ret2
        all_goals exact NumRet.no HN.out
    · have hku : k = u.size := by omega
      have hall : u.data.toList.take k = u.data.toList := List.take_of_length_le (by simp; omega)
      rw [hall] at hd hv ⊢
      have hlen : u.data.toList.length = u.size := (Lib.size_eq u).symm
      have HY := Lib.hid (PhS.numS_yes HB.out (by omega) (by omega) hd)
      clear hall hd hlen
      generalize PhS.valFrom 0 u.data.toList = v at *
      subst hku
      go_wp2
      go_ret2
      exact NumRet.yes (by rw [HY.out]; rw [if_neg HH.out])
set_option maxRecDepth 100000 in
set_option linter.unusedVariables false in
theorem number_bare (u : ByteArray) (hu2 : 1 ≤ u.size) (hu1 : u.size ≤ 9) (c45 : ((u[0].toNat : Int) == 45) = false) (c43 : ((u[0].toNat : Int) == 43) = false) (w : World) :
    Calls Tryz.prog 116 #[.string u] w (NumRet u.data.toList w) := by
  have k45 : ¬ (u[0].toNat : Int) = 45 := beq_eq_false_iff_ne.1 c45
  have k43 : ¬ (u[0].toNat : Int) = 43 := beq_eq_false_iff_ne.1 c43
  have HB := Lib.hid (bare_none (s := u) (by omega) k45 k43)
  have HH : ¬ u.data.toList.head? = some 45 := by
    rw [head_is (by omega)]
    intro e
    have e2 := Option.some.inj e
    rw [e2] at k45
    exact k45 rfl
  have HH := Lib.hid HH
  clear k45 k43
  go_enter Tryz.func116, Tryz.ntmps116
  go_wp2_with fail
  clear c45 c43
  go_loop [4, 6] (fun n i => NumLoop u n i) (fun _ i => u.size - (intOf i).toNat)
  case atStart => exact ⟨0, Nat.zero_le _, rfl, rfl, rfl⟩
  case round =>
    obtain ⟨k, hk, rfl, rfl, hd⟩ := hrel
    have hv : PhS.valFrom 0 (u.data.toList.take k) < 1000000000 := by
      have := PhS.valFrom_lt _ hd
      have h2 : (u.data.toList.take k).length ≤ 9 := by simp; omega
      have h3 : 10 ^ (u.data.toList.take k).length ≤ 10 ^ 9 := Nat.pow_le_pow_right (by decide) h2
      omega
    by_cases hlt : k < u.size
    · have HT := Lib.hid (PhS.take_snoc u k hlt)
      have HD := Lib.hid hd
      clear hd
      generalize hvv : PhS.valFrom 0 (u.data.toList.take k) = v at *
      have HV := Lib.hid hvv
      clear hvv
      by_cases hdig : 48 ≤ (u[k].toNat : Int) ∧ (u[k].toNat : Int) ≤ 57
      · have HG := Lib.hid (dig_fact hdig)
        have HQ := Lib.hid hdig
        obtain ⟨d1, d2⟩ := hdig
        go_wp2
        go_round
        case rel =>
          refine ⟨k + 1, by omega, by go_num, int_cast ?_, ?_⟩
          · rw [HT.out, PhS.valFrom_snoc, HV.out]
            have := HQ.out
            omega
          · rw [HT.out, List.all_append, HD.out]; simp [HG.out]
        case measure => simp [intOf]; omega
      · have hno := all_not u k hlt (dig_not hdig)
        have HN := Lib.hid (PhS.numS_no HB.out (.inr (.inr hno)))
        clear hno
        go_wp2
        all_goals go_ret2
        all_goals exact NumRet.no HN.out
    · have hku : k = u.size := by omega
      have hall : u.data.toList.take k = u.data.toList := List.take_of_length_le (by simp; omega)
      rw [hall] at hd hv ⊢
      have hlen : u.data.toList.length = u.size := (Lib.size_eq u).symm
      have HY := Lib.hid (PhS.numS_yes HB.out (by omega) (by omega) hd)
      clear hall hd hlen
      generalize PhS.valFrom 0 u.data.toList = v at *
      subst hku
      go_wp2
      go_ret2
      exact NumRet.yes (by rw [HY.out]; rw [if_neg HH.out])

set_option maxRecDepth 100000 in
theorem number_neg_off (s : ByteArray) (h1 : 0 < s.size) (hm : s.size ≤ 9223372036854775807) (hz : s.size < 2 ∨ 10 < s.size) (c45 : (s[0].toNat : Int) = 45) (w : World) :
    Calls Tryz.prog 116 #[.string s] w (NumRet s.data.toList w) := by
  have HN := Lib.hid (PhS.numS_no (bare_sign (s := s) h1 (.inl c45)) (by rw [← Lib.size_eq]; simp only [ByteArray.size_extract]; omega))
  rcases hz with hz | hz
  all_goals
    go_enter Tryz.func116, Tryz.ntmps116
    go_wp2_with fail
    go_ret2
    exact NumRet.no HN.out
set_option maxRecDepth 100000 in
theorem number_plus_off (s : ByteArray) (h1 : 0 < s.size) (hm : s.size ≤ 9223372036854775807) (hz : s.size < 2 ∨ 10 < s.size) (c43 : (s[0].toNat : Int) = 43) (w : World) :
    Calls Tryz.prog 116 #[.string s] w (NumRet s.data.toList w) := by
  have HN := Lib.hid (PhS.numS_no (bare_sign (s := s) h1 (.inr c43)) (by rw [← Lib.size_eq]; simp only [ByteArray.size_extract]; omega))
  rcases hz with hz | hz
  all_goals
    go_enter Tryz.func116, Tryz.ntmps116
    go_wp2_with fail
    go_ret2
    exact NumRet.no HN.out
set_option maxRecDepth 100000 in
theorem number_bare_off (s : ByteArray) (h1 : 9 < s.size) (hm : s.size ≤ 9223372036854775807) (c45 : ((s[0].toNat : Int) == 45) = false) (c43 : ((s[0].toNat : Int) == 43) = false) (w : World) :
    Calls Tryz.prog 116 #[.string s] w (NumRet s.data.toList w) := by
  have HN := Lib.hid (PhS.numS_no (bare_none (s := s) (by omega) (beq_eq_false_iff_ne.1 c45) (beq_eq_false_iff_ne.1 c43)) (by rw [← Lib.size_eq]; omega))
  go_enter Tryz.func116, Tryz.ntmps116
  go_wp2_with fail
  go_ret2
  exact NumRet.no HN.out

theorem number_c (s : ByteArray) (hm : s.size ≤ 9223372036854775807) (w : World) : Calls Tryz.prog 116 #[.string s] w (NumRet s.data.toList w) := by
  by_cases h0 : s.size = 0
  · exact number_empty s h0 w
  have h1 : 0 < s.size := by omega
  by_cases c45 : (s[0].toNat : Int) = 45
  · by_cases hz : s.size < 2 ∨ 10 < s.size
    · exact number_neg_off s h1 hm hz c45 w
    · exact number_neg s (by omega) (by omega) c45 w
  by_cases c43 : (s[0].toNat : Int) = 43
  · by_cases hz : s.size < 2 ∨ 10 < s.size
    · exact number_plus_off s h1 hm hz c43 w
    · exact number_plus s (by omega) (by omega) c43 w
  by_cases hz : 9 < s.size
  · exact number_bare_off s hz hm (beq_eq_false_iff_ne.2 c45) (beq_eq_false_iff_ne.2 c43) w
  · exact number_bare s (by omega) (by omega) (beq_eq_false_iff_ne.2 c45) (beq_eq_false_iff_ne.2 c43) w
end Go.Proofs.YtjjbkldlgjllnaaGreatDoor
