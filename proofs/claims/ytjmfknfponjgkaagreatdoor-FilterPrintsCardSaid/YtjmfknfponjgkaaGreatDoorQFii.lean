/- The walks of how a filter's value is written: the document's escaped; sign, both. Conditions: at most 20000 bytes. -/
import Derived.Test.YtjmfknfponjgkaaGreatDoorQFih
import Derived.Test.YtjmfknfponjgkaaGreatDoorQRdo
namespace Go.Proofs.YtjmfknfponjgkaaGreatDoor
open Go.RowKit
open FiS (Fi)
attribute [local go_sem ↓] Go.wp_at_zero Go.wp_at_succ

set_option maxRecDepth 100000 in
set_option maxHeartbeats 4000000 in
theorem escaped_c (l : List UInt8) (hl : l.length ≤ 20000) (w : World) : Calls Tryz.prog 45 #[.string ⟨l.toArray⟩] w fun e w' => e = .returned (.string ⟨(FiS.escV l).toArray⟩) ∧ Below w.heap.size w w' := by
  have HS := Lib.hid (fun k (hk : k < l.length) => FiS.escV_take hk)
  have HLE := Lib.hid (fun k => FiS.escV_take_le (v := l) (k := k))
  have HALL : Hid (l.take l.length = l) := Lib.hid (List.take_length)
  have HNIL : Hid (FiS.escV (l.take 0) = []) := Lib.hid rfl
  go_enter Tryz.func45, Tryz.ntmps45
  go_wp2_with fail
  go_loopw [3, 4] (fun out i wr => ∃ k : Nat, k ≤ l.length ∧ i = .int .i64 k ∧ OwnB wr w.heap.size out (FiS.escV (l.take k)) ∧ Below w.heap.size w wr) (fun _ i _ => l.length - (intOf i).toNat)
  case atStart => exact ⟨0, Nat.zero_le _, rfl, by rw [HNIL.out]; exact OwnB.empty _ _, Below.refl _ _⟩
  case round =>
    obtain ⟨k, hk, rfl, hown, hb⟩ := hrel
    have hsz := hb.size
    by_cases hlt : k < l.length
    · have HSk := Lib.hid (HS.out k hlt)
      have hle := HLE.out k
      have hacc : (FiS.escV (l.take k)).length ≤ 60000 := by omega
      generalize hcq : l[k] = c at *
      have hq2 : ∀ h, (⟨l.toArray⟩ : ByteArray)[k]'h = c := fun _ => hcq
      clear hcq hle
      have HFIN : Hid (∀ (x : List UInt8) (out i : Value) (w2 : World), i = .int .i64 ((k + 1 : Nat) : Int) → FiS.escF c = x → OwnB w2 w.heap.size out (FiS.escV (l.take k) ++ x) → Below w.heap.size w w2 → ∃ k' : Nat, k' ≤ l.length ∧ i = .int .i64 k' ∧ OwnB w2 w.heap.size out (FiS.escV (l.take k')) ∧ Below w.heap.size w w2) :=
        Lib.hid (fun x out i w2 hi hx h1 h2 => ⟨k + 1, hlt, hi, by rw [HSk.out, hx]; exact h1, h2⟩)
      generalize FiS.escV (l.take k) = acc at *
      clear HSk HS HLE HALL HNIL
      have hx1 := hex_hi c
      have hx2 := hex_lo c
      have hand : bits .and .u8 (c.toNat : Int) 15 = (c.toNat : Int) % 16 := u8_and15 (c.toNat : Int) (by omega) (by have := c.toNat_lt; omega)
      have HBD : Hid (FiS.bad c = (decide (c.toNat < 32) || decide (126 < c.toNat) || [42, 40, 41, 92].contains c)) := Lib.hid rfl
      have e42 : ((c.toNat : Int) == 42) = (c == 42) := u8_eqB rfl
      have e40 : ((c.toNat : Int) == 40) = (c == 40) := u8_eqB rfl
      have e41 : ((c.toNat : Int) == 41) = (c == 41) := u8_eqB rfl
      have e92 : ((c.toNat : Int) == 92) = (c == 92) := u8_eqB rfl
      have h7 : (FiS.bad c = true ∧ decide ((c.toNat : Int) < 32) = true) ∨ (FiS.bad c = true ∧ decide ((c.toNat : Int) < 32) = false ∧ decide ((126 : Int) < (c.toNat : Int)) = true) ∨
          (FiS.bad c = true ∧ decide ((c.toNat : Int) < 32) = false ∧ decide ((126 : Int) < (c.toNat : Int)) = false ∧ (c == 42) = true) ∨
          (FiS.bad c = true ∧ decide ((c.toNat : Int) < 32) = false ∧ decide ((126 : Int) < (c.toNat : Int)) = false ∧ (c == 42) = false ∧ (c == 40) = true) ∨
          (FiS.bad c = true ∧ decide ((c.toNat : Int) < 32) = false ∧ decide ((126 : Int) < (c.toNat : Int)) = false ∧ (c == 42) = false ∧ (c == 40) = false ∧ (c == 41) = true) ∨
          (FiS.bad c = true ∧ decide ((c.toNat : Int) < 32) = false ∧ decide ((126 : Int) < (c.toNat : Int)) = false ∧ (c == 42) = false ∧ (c == 40) = false ∧ (c == 41) = false ∧ (c == 92) = true) ∨
          (FiS.bad c = false ∧ decide ((c.toNat : Int) < 32) = false ∧ decide ((126 : Int) < (c.toNat : Int)) = false ∧ (c == 42) = false ∧ (c == 40) = false ∧ (c == 41) = false ∧ (c == 92) = false) := by
        rw [HBD.out]
        have e1 : decide ((c.toNat : Int) < 32) = decide (c.toNat < 32) := decide_eq_decide.2 (by omega)
        have e2 : decide ((126 : Int) < (c.toNat : Int)) = decide (126 < c.toNat) := decide_eq_decide.2 (by omega)
        have e3 : [42, 40, 41, 92].contains c = ((c == 42) || ((c == 40) || ((c == 41) || (c == 92)))) := by rw [List.contains_cons, List.contains_cons, List.contains_cons, List.contains_cons, List.contains_nil, Bool.or_false]
        rw [e1, e2, e3]
        cases decide (c.toNat < 32) <;> cases decide (126 < c.toNat) <;> cases (c == 42) <;> cases (c == 40) <;> cases (c == 41) <;> cases (c == 92) <;> simp
      clear HBD
      have hownA := hown
      clear hown
      rcases h7 with ⟨hbd, g1⟩ | ⟨hbd, g1, g2⟩ | ⟨hbd, g1, g2, g3⟩ | ⟨hbd, g1, g2, g3, g4⟩ | ⟨hbd, g1, g2, g3, g4, g5⟩ | ⟨hbd, g1, g2, g3, g4, g5, g6⟩ | ⟨hbd, g1, g2, g3, g4, g5, g6⟩
      case inr.inr.inr.inr.inr.inr =>
        have HE := Lib.hid (FiS.escF_plain hbd)
        rw [g3] at e42
        rw [g4] at e40
        rw [g5] at e41
        rw [g6] at e92
        clear hbd hx1 hx2 hand g3 g4 g5 g6
        go_wp2_with (at_builtin; refine push_bytes (by rfl) _ _ (by rfl) w.heap.size _ acc (by rfl) (hownA.alloc _) wr.heap.size 1 1 (by rfl) [c] (by rfl) (by first | exact one_cell (by simp [go_sem, byteV]) | exact one_list _) (by omega) (by simp; omega) ?_)
        intro v' w2 hown2 hb2
        go_wp2_with fail
        go_roundw
        · first | exact HFIN.out _ _ _ _ (by go_num) HE.out hown2 ((hb.alloc hsz _).trans hb2) | (simp [intOf]; omega)
        · first | exact HFIN.out _ _ _ _ (by go_num) HE.out hown2 ((hb.alloc hsz _).trans hb2) | (simp [intOf]; omega)
      all_goals
        have HE := Lib.hid (FiS.escF_hex hbd)
        try rw [g3] at e42
        try rw [g4] at e40
        try rw [g5] at e41
        try rw [g6] at e92
        clear hbd
        try clear g3
        try clear g4
        try clear g5
        try clear g6
        go_wp2_with fail
        go_region_law (first | (refine step_pushN (by rfl) _ _ (by rfl) w.heap.size _ acc (by rfl) (World.ownsRow.alloc hownA _) wr.heap.size 3 3 (by rfl) [92, RdS.hexd (c.toNat / 16), RdS.hexd (c.toNat % 16)] (by rfl) (three_cells (by simp [go_sem, byteV]) (by simp [go_sem, byteV]) (by simp [go_sem, byteV])) (by omega) (by simp; omega) ?_; intro v' w2 hown2 hb2))
        all_goals go_wp2_with fail
        all_goals go_roundw
        all_goals first | exact HFIN.out _ _ _ _ (by go_num) HE.out hown2 ((hb.drew.alloc hsz _).trans hb2) | (simp [intOf]; omega)
    · have hkl : k = l.length := by omega
      subst hkl
      rw [HALL.out] at hown
      have hback := hown.back
      clear hown
      go_wp2_with fail
      go_ret
      exact ⟨rfl, hb⟩
set_option maxRecDepth 100000 in
theorem sign_c (k : Int) (w : World) : Calls Tryz.prog 44 #[.int .i64 k] w fun e w' => e = .returned (.string ⟨(FiS.signS k).toArray⟩) ∧ w = w' := by
  by_cases h5 : k = 5
  · subst h5
    go_enter Tryz.func44, Tryz.ntmps44
    go_wp2_with fail
    go_ret
    exact ⟨rfl, rfl⟩
  by_cases h6 : k = 6
  · subst h6
    go_enter Tryz.func44, Tryz.ntmps44
    go_wp2_with fail
    go_ret
    exact ⟨rfl, rfl⟩
  by_cases h8 : k = 8
  · subst h8
    go_enter Tryz.func44, Tryz.ntmps44
    go_wp2_with fail
    go_ret
    exact ⟨rfl, rfl⟩
  have e : FiS.signS k = [61] := by unfold FiS.signS; rw [if_neg h5, if_neg h6, if_neg h8]
  rw [e]
  have g5 : (k == 5) = false := by simpa using h5
  have g6 : (k == 6) = false := by simpa using h6
  have g8 : (k == 8) = false := by simpa using h8
  clear e
  go_enter Tryz.func44, Tryz.ntmps44
  go_wp2_with fail
  go_ret
  exact ⟨rfl, rfl⟩
set_option maxRecDepth 100000 in
theorem refsign_c (k : Int) (w : World) : Calls Tryz.prog 46 #[.int .i64 k] w fun e w' => e = .returned (.string ⟨(FiS.signS k).toArray⟩) ∧ w = w' := by
  by_cases h5 : k = 5
  · subst h5
    go_enter Tryz.func46, Tryz.ntmps46
    go_wp2_with fail
    go_ret
    exact ⟨rfl, rfl⟩
  by_cases h6 : k = 6
  · subst h6
    go_enter Tryz.func46, Tryz.ntmps46
    go_wp2_with fail
    go_ret
    exact ⟨rfl, rfl⟩
  by_cases h8 : k = 8
  · subst h8
    go_enter Tryz.func46, Tryz.ntmps46
    go_wp2_with fail
    go_ret
    exact ⟨rfl, rfl⟩
  have e : FiS.signS k = [61] := by unfold FiS.signS; rw [if_neg h5, if_neg h6, if_neg h8]
  rw [e]
  have g5 : (k == 5) = false := by simpa using h5
  have g6 : (k == 6) = false := by simpa using h6
  have g8 : (k == 8) = false := by simpa using h8
  clear e
  go_enter Tryz.func46, Tryz.ntmps46
  go_wp2_with fail
  go_ret
  exact ⟨rfl, rfl⟩
end Go.Proofs.YtjmfknfponjgkaaGreatDoor
