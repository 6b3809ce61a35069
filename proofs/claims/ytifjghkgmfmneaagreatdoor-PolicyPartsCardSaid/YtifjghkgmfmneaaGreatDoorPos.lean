/- The small walks of the laws on rules: 'Theirs', 'ours', 'Few', 'few', 'Same'. Conditions: lists of at most 1000000 rules ('Few': of any length, each text of at most 2^47 bytes). -/
import Derived.Test.YtifjghkgmfmneaaGreatDoorPol
import Derived.BigQuiet
import Derived.Laws.StructEq
namespace Go.Proofs.YtifjghkgmfmneaaGreatDoor
open Go.RowKit

theorem infoRule : (Tryz.prog.info? 29).map (fun i => (i.zero, i.size, i.bytes)) = some (some (.agg #[.string ⟨#[]⟩, .string ⟨#[]⟩, .string ⟨#[]⟩, .int .i64 0, .bool false]), 5, 64) := by kernel_rfl
theorem infoRule2 : (Tryz.prog.info? 30).map (fun i => (i.zero, i.size, i.bytes)) = some (some (.agg #[.string ⟨#[]⟩, .string ⟨#[]⟩, .string ⟨#[]⟩, .int .i64 0, .bool false]), 5, 64) := by kernel_rfl
def RulesRet (T : TypeId) (xs : List PoS.Rl) (w : World) (e : Ending) (w' : World) : Prop := ∃ u, e = .returned u ∧ OwnR T w' w.heap.size u xs ∧ Below w.heap.size w w'
def turnLoop (T : TypeId) (xs : List PoS.Rl) (w0 : World) (out i : Value) (wr : World) : Prop :=
  ∃ k : Nat, k ≤ xs.length ∧ i = .int .i64 k ∧ OwnR T wr w0.heap.size out (xs.take k) ∧ Below w0.heap.size w0 wr
set_option maxRecDepth 100000 in
set_option maxHeartbeats 1000000 in
theorem theirs11_c (v : Value) (xs : List PoS.Rl) (w : World) (h : RulesIn w v xs) (hl : xs.length ≤ 1000000) : Calls Tryz.prog 25 #[v] w (RulesRet 29 xs w) := by
  obtain ⟨a, c, rfl, hc, hat⟩ := h.at
  have HAT := Lib.hid hat
  obtain ⟨i0, hi, hz0, hz1, hz2⟩ := info_parts infoRule
  have HI := Lib.hid hi
  clear hat h hi
  generalize hn : xs.length = n at hc hl ⊢
  have HN := Lib.hid hn
  clear hn
  go_enter Tryz.func25, Tryz.ntmps25
  go_wp2_with fail
  go_loopw [3, 7] (fun out i wr => turnLoop 29 xs w out i wr) (fun _ i _ => n - (intOf i).toNat)
  case atStart => exact ⟨0, Nat.zero_le _, rfl, OwnR.empty _ _ _, Below.refl _ _⟩
  case round =>
    obtain ⟨k, hk, rfl, hown, hb⟩ := hrel
    rw [HN.out] at hk
    have hsz := hb.size
    by_cases hlt : k < n
    · have hlt2 : k < xs.length := by rw [HN.out]; exact hlt
      obtain ⟨g, o, rfl, hg, hra⟩ := HAT.out k hlt2
      have hrc := hra.call hb hg
      have HTK := Lib.hid (List.take_succ_eq_append_getElem hlt2)
      have htl : (xs.take k).length ≤ 1000000 := by rw [List.length_take]; omega
      clear hra
      generalize xs[k] = r at hrc HTK
      obtain ⟨who, target, ra, rights, allow⟩ := r
      obtain ⟨c0, c1, c2, c3, c4⟩ := hrc
      unfold strV at c0 c1 c2
      simp only at c0 c1 c2 c3 c4
      clear hlt2
      go_wp2_with (at_builtin; refine push_rule 29 27 Tryz.underlying27 HI.out hz0 hz1 hz2 (by rfl) (by rfl) _ _ (by rfl) w.heap.size _ (xs.take k) (by rfl) (hown.alloc _) wr.heap.size (by rfl) ⟨who, target, ra, rights, allow⟩ ?e1 ?e2 ?e3 ?_)
      case e1 => simp [go_sem, strV, RuleAt]
      case e2 => omega
      case e3 => simp; omega
      intro v' w2 hown2 hb2
      go_wp2_with fail
      go_roundw
      case rel => exact ⟨k + 1, by rw [HN.out]; omega, by go_num, by rw [HTK.out]; exact hown2, (hb.alloc hsz _).trans hb2⟩
      case measure => simp [intOf]; omega
    · have hall : xs.take k = xs := List.take_of_length_le (by rw [HN.out]; omega)
      rw [hall] at hown
      clear hall
      go_wp2_with fail
      go_ret
      exact ⟨_, rfl, hown, hb⟩
def FewRet11 (xs : List PoS.Rl) (w : World) (e : Ending) (w' : World) : Prop := ∃ b, e = .returned (.bool b) ∧ (b = true → xs.length ≤ 100 ∧ ∀ r ∈ xs, r.who.length ≤ 3000 ∧ r.target.length ≤ 3000 ∧ r.attr.length ≤ 3000) ∧ Below w.heap.size w w'
def WideR (r : PoS.Rl) : Prop := r.who.length ≤ 281474976710656 ∧ r.target.length ≤ 281474976710656 ∧ r.attr.length ≤ 281474976710656
set_option maxRecDepth 100000 in
set_option maxHeartbeats 1000000 in
theorem few11_c (v : Value) (xs : List PoS.Rl) (w : World) (h : RulesIn w v xs) (hl0 : xs.length ≤ 9223372036854775807) (hs : ∀ r ∈ xs, WideR r) : Calls Tryz.prog 21 #[v] w (FewRet11 xs w) := by
  have hl := hl0
  obtain ⟨a, c, rfl, hc, hat⟩ := h.at
  have HAT := Lib.hid hat
  have HS := Lib.hid (fun k (h : k < xs.length) => hs xs[k] (List.getElem_mem h))
  clear hat h hs
  generalize hn : xs.length = n at hc hl ⊢
  have HN := Lib.hid hn
  clear hn
  go_enter Tryz.func21, Tryz.ntmps21
  go_wp2_with fail
  go_loopw [6] (fun i wr => ∃ k : Nat, k ≤ n ∧ k ≤ 100 ∧ i = .int .i64 k ∧ Hid (∀ r ∈ xs.take k, r.who.length ≤ 3000 ∧ r.target.length ≤ 3000 ∧ r.attr.length ≤ 3000) ∧ Below w.heap.size w wr) (fun i _ => n - (intOf i).toNat)
  case atStart => exact ⟨0, Nat.zero_le _, by omega, rfl, Lib.hid (by simp), Below.refl _ _⟩
  case round =>
    obtain ⟨k, hk, hk100, rfl, HA, hb⟩ := hrel
    by_cases hlt : k < n
    · have hlt2 : k < xs.length := by rw [HN.out]; exact hlt
      obtain ⟨g, o, rfl, hg, hra⟩ := HAT.out k hlt2
      have hrc := hra.call hb hg
      have HTK := Lib.hid (List.take_succ_eq_append_getElem hlt2)
      have hsm := HS.out k hlt2
      clear hra
      generalize xs[k] = r at hrc HTK hsm
      obtain ⟨who, target, ra, rights, allow⟩ := r
      obtain ⟨c0, c1, c2, c3, c4⟩ := hrc
      obtain ⟨q1, q2, q3⟩ := hsm
      unfold strV at c0 c1 c2
      simp only at c0 c1 c2 c3 c4 q1 q2 q3
      clear hlt2
      by_cases hi : 100 ≤ k
      · have h3 : decide ((100 : Int) ≤ (k : Int)) = true := decide_eq_true (by omega)
        go_wp2_with fail
        go_quiet (fail)
        go_wp2_with fail
        go_ret
        exact ⟨false, rfl, (fun h => by cases h), hb.trans ((below_drewN wr nq).mono hb.size)⟩
      have h3 : decide ((100 : Int) ≤ (k : Int)) = false := decide_eq_false (by omega)
      have hi2 : k ≤ 99 := by omega
      clear hi
      by_cases hsum : 3000 < who.length + target.length + ra.length
      · have h4 : (3000 : Int) < (who.length : Int) + (target.length : Int) + (ra.length : Int) := by omega
        go_wp2_with fail
        go_quiet (fail)
        go_wp2_with fail
        go_ret
        exact ⟨false, rfl, (fun h => by cases h), hb.trans ((below_drewN wr nq).mono hb.size)⟩
      have h4 : decide ((3000 : Int) < (who.length : Int) + (target.length : Int) + (ra.length : Int)) = false := decide_eq_false (by omega)
      have HT : Hid (who.length ≤ 3000 ∧ target.length ≤ 3000 ∧ ra.length ≤ 3000) := Lib.hid ⟨by omega, by omega, by omega⟩
      clear hsum
      go_wp2_with fail
      go_quiet (fail)
      go_wp2_with fail
      go_roundw
      case rel => exact ⟨k + 1, by omega, by omega, by go_num, Lib.hid (fun q hq => by
        rw [HTK.out] at hq
        rcases List.mem_append.1 hq with hq | hq
        · exact HA.out q hq
        · have := List.mem_singleton.1 hq; subst this; exact HT.out), hb.trans ((below_drewN wr nq).mono hb.size)⟩
      case measure => simp [intOf]; omega
    · have hall : xs.take k = xs := List.take_of_length_le (by rw [HN.out]; omega)
      have HR : Hid (xs.length ≤ 100 ∧ ∀ r ∈ xs, r.who.length ≤ 3000 ∧ r.target.length ≤ 3000 ∧ r.attr.length ≤ 3000) := Lib.hid ⟨by rw [HN.out]; omega, by have := HA.out; rwa [hall] at this⟩
      clear hall
      go_wp2_with fail
      go_ret
      exact ⟨true, rfl, fun _ => HR.out, hb⟩
/-- what is asked -/
structure Ask where
  s : List UInt8
  n : List UInt8
  t : List UInt8
  right : Int
def askV (a : Ask) : Value := .agg #[.string ⟨a.s.toArray⟩, .string ⟨a.n.toArray⟩, .string ⟨a.t.toArray⟩, .int .i64 a.right]
def WideAsk (a : Ask) : Prop := a.s.length ≤ 281474976710656 ∧ a.n.length ≤ 281474976710656 ∧ a.t.length ≤ 281474976710656 ∧ -9223372036854775808 ≤ a.right ∧ a.right ≤ 9223372036854775807
def AskRet (s n t : List UInt8) (w : World) (e : Ending) (w' : World) : Prop := ∃ b, e = .returned (.bool b) ∧ (b = true → s.length ≤ 3000 ∧ n.length ≤ 3000 ∧ t.length ≤ 3000) ∧ Below w.heap.size w w'
set_option maxRecDepth 100000 in
theorem askfew_c (s n t : List UInt8) (right : Int) (w : World) (q1 : s.length ≤ 281474976710656) (q2 : n.length ≤ 281474976710656) (q3 : t.length ≤ 281474976710656) :
    Calls Tryz.prog 22 #[.agg #[.string ⟨s.toArray⟩, .string ⟨n.toArray⟩, .string ⟨t.toArray⟩, .int .i64 right]] w (AskRet s n t w) := by
  have hb := grow1 w (.cells #[.string ⟨s.toArray⟩, .string ⟨n.toArray⟩, .string ⟨t.toArray⟩, .int .i64 right] 24)
  have HT : Hid (s.length + n.length + t.length ≤ 3000 → s.length ≤ 3000 ∧ n.length ≤ 3000 ∧ t.length ≤ 3000) := Lib.hid (fun h => ⟨by omega, by omega, by omega⟩)
  have HD : Hid ((decide ((s.length : Int) + (n.length : Int) + (t.length : Int) ≤ 3000)) = true → s.length + n.length + t.length ≤ 3000) := Lib.hid (fun h => by have := of_decide_eq_true h; omega)
  go_enter Tryz.func22, Tryz.ntmps22
  go_wp2_with fail
  go_ret
  exact ⟨_, rfl, fun h => HT.out (HD.out h), hb⟩
end Go.Proofs.YtifjghkgmfmneaaGreatDoor
