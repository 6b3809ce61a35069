/- The walks of the small functions of the laws on parts: 'ours', 'theirs', 'few', 'SameAVAs', 'awake'. Conditions: lists of at most 1000000 pairs; the library's variables are laid. -/
import Derived.Test.YtjjbkldlgjllnaaGreatDoorRdl
import Derived.BigQuiet
namespace Go.Proofs.YtjjbkldlgjllnaaGreatDoor
open Go.RowKit

def oursLoop (xs : List RdS.Pr) (w0 : World) (out i : Value) (wr : World) : Prop :=
  ∃ k : Nat, k ≤ xs.length ∧ i = .int .i64 k ∧ OwnA 66 wr w0.heap.size out (xs.take k) ∧ Below w0.heap.size w0 wr
set_option maxRecDepth 100000 in
theorem ours_c (v : Value) (xs : List RdS.Pr) (w : World) (h : AvasIn w v xs) (hl : xs.length ≤ 1000000) : Calls Tryz.prog 35 #[v] w fun e w' => ∃ u, e = .returned u ∧ OwnA 66 w' w.heap.size u xs ∧ Below w.heap.size w w' := by
  obtain ⟨a, c, rfl, hc, hcase⟩ := h
  rcases hcase with rfl | ⟨g, o, rfl, hg, hcell⟩
  · go_enter Tryz.func35, Tryz.ntmps35
    go_wp2_with fail
    refine wp_loop_rounds 1 ?_
    rw [rounds_succ]
    go_wp2_with fail
    go_ret
    exact ⟨_, rfl, OwnA.empty _ _ _, Below.refl _ _⟩
  · generalize hn : xs.length = n at *
    have HN := Lib.hid hn
    have HCELL := Lib.hid hcell
    obtain ⟨i0, hi, hz0, hz1, hz2⟩ := info_parts infoAva2
    have HI := Lib.hid hi
    clear hn hcell hi
    go_enter Tryz.func35, Tryz.ntmps35
    go_wp2_with fail
    go_loopw [3, 7] (fun out i wr => oursLoop xs w out i wr) (fun _ i _ => n - (intOf i).toNat)
    case atStart => exact ⟨0, Nat.zero_le _, rfl, OwnA.empty _ _ _, Below.refl _ _⟩
    case round =>
      obtain ⟨k, hk, rfl, hown, hb⟩ := hrel
      rw [HN.out] at hk
      have hsz := hb.size
      by_cases hlt : k < n
      · have hlt2 : k < xs.length := by rw [HN.out]; exact hlt
        obtain ⟨c0, c1⟩ := HCELL.out k _ (List.getElem?_eq_getElem hlt2)
        have HTK := Lib.hid (List.take_succ_eq_append_getElem hlt2)
        have htl : (xs.take k).length ≤ 1000000 := by rw [List.length_take]; omega
        generalize xs[k] = p at *
        obtain ⟨t, u⟩ := p
        simp only at c0 c1
        replace c0 : wr.cell? ⟨g, o + k * 2, none⟩ = some (strV t) := (hb.cell (p := ⟨g, o + k * 2, none⟩) hg).trans c0
        replace c1 : wr.cell? ⟨g, o + k * 2 + 1, none⟩ = some (strV u) := (hb.cell (p := ⟨g, o + k * 2 + 1, none⟩) hg).trans c1
        unfold strV at c0 c1
        clear hlt2
        go_wp2_with (at_builtin; refine push_ava 66 38 Tryz.underlying38 HI.out hz0 hz1 hz2 (by rfl) (by rfl) _ _ (by rfl) w.heap.size _ (xs.take k) (by rfl) (hown.alloc _) wr.heap.size (by rfl) (t, u) ?e1 ?e2 ?e3 ?e4 ?_)
        case e1 => simp [go_sem, strV]
        case e2 => simp [go_sem, strV]
        case e3 => omega
        case e4 => simp; omega
        intro v' w2 hown2 hb2
        go_wp2_with fail
        go_roundw
        case rel => exact ⟨k + 1, by rw [HN.out]; omega, by go_num, by rw [HTK.out]; exact hown2, (hb.alloc hsz _).trans hb2⟩
        case measure => simp [intOf]; omega
      · have hall : xs.take k = xs := List.take_of_length_le (by rw [HN.out]; omega)
        rw [hall] at hown
        clear hall
        go_wp2_with fail
        go_ret
        exact ⟨_, rfl, hown, hb⟩

def theirsLoop (xs : List RdS.Pr) (w0 : World) (out i : Value) (wr : World) : Prop :=
  ∃ k : Nat, k ≤ xs.length ∧ i = .int .i64 k ∧ OwnA 53 wr w0.heap.size out (xs.take k) ∧ Below w0.heap.size w0 wr
set_option maxRecDepth 100000 in
theorem theirs_c (v : Value) (xs : List RdS.Pr) (w : World) (h : AvasIn w v xs) (hl : xs.length ≤ 1000000) : Calls Tryz.prog 38 #[v] w fun e w' => ∃ u, e = .returned u ∧ OwnA 53 w' w.heap.size u xs ∧ Below w.heap.size w w' := by
  obtain ⟨a, c, rfl, hc, hcase⟩ := h
  rcases hcase with rfl | ⟨g, o, rfl, hg, hcell⟩
  · go_enter Tryz.func38, Tryz.ntmps38
    go_wp2_with fail
    refine wp_loop_rounds 1 ?_
    rw [rounds_succ]
    go_wp2_with fail
    go_ret
    exact ⟨_, rfl, OwnA.empty _ _ _, Below.refl _ _⟩
  · generalize hn : xs.length = n at *
    have HN := Lib.hid hn
    have HCELL := Lib.hid hcell
    obtain ⟨i0, hi, hz0, hz1, hz2⟩ := info_parts infoAva
    have HI := Lib.hid hi
    clear hn hcell hi
    go_enter Tryz.func38, Tryz.ntmps38
    go_wp2_with fail
    go_loopw [3, 7] (fun out i wr => theirsLoop xs w out i wr) (fun _ i _ => n - (intOf i).toNat)
    case atStart => exact ⟨0, Nat.zero_le _, rfl, OwnA.empty _ _ _, Below.refl _ _⟩
    case round =>
      obtain ⟨k, hk, rfl, hown, hb⟩ := hrel
      rw [HN.out] at hk
      have hsz := hb.size
      by_cases hlt : k < n
      · have hlt2 : k < xs.length := by rw [HN.out]; exact hlt
        obtain ⟨c0, c1⟩ := HCELL.out k _ (List.getElem?_eq_getElem hlt2)
        have HTK := Lib.hid (List.take_succ_eq_append_getElem hlt2)
        have htl : (xs.take k).length ≤ 1000000 := by rw [List.length_take]; omega
        generalize xs[k] = p at *
        obtain ⟨t, u⟩ := p
        simp only at c0 c1
        replace c0 : wr.cell? ⟨g, o + k * 2, none⟩ = some (strV t) := (hb.cell (p := ⟨g, o + k * 2, none⟩) hg).trans c0
        replace c1 : wr.cell? ⟨g, o + k * 2 + 1, none⟩ = some (strV u) := (hb.cell (p := ⟨g, o + k * 2 + 1, none⟩) hg).trans c1
        unfold strV at c0 c1
        clear hlt2
        go_wp2_with (at_builtin; refine push_ava 53 35 Tryz.underlying35 HI.out hz0 hz1 hz2 (by rfl) (by rfl) _ _ (by rfl) w.heap.size _ (xs.take k) (by rfl) (hown.alloc _) wr.heap.size (by rfl) (t, u) ?e1 ?e2 ?e3 ?e4 ?_)
        case e1 => simp [go_sem, strV]
        case e2 => simp [go_sem, strV]
        case e3 => omega
        case e4 => simp; omega
        intro v' w2 hown2 hb2
        go_wp2_with fail
        go_roundw
        case rel => exact ⟨k + 1, by rw [HN.out]; omega, by go_num, by rw [HTK.out]; exact hown2, (hb.alloc hsz _).trans hb2⟩
        case measure => simp [intOf]; omega
      · have hall : xs.take k = xs := List.take_of_length_le (by rw [HN.out]; omega)
        rw [hall] at hown
        clear hall
        go_wp2_with fail
        go_ret
        exact ⟨_, rfl, hown, hb⟩

def FewRet05 (xs : List RdS.Pr) (w : World) (e : Ending) (w' : World) : Prop := ∃ b, e = .returned (.bool b) ∧ (b = true → xs.length ≤ 51 ∧ ∀ p ∈ xs, p.1.length ≤ 1000 ∧ p.2.length ≤ 1000) ∧ w = w'
set_option maxRecDepth 100000 in
theorem few05_c (v : Value) (xs : List RdS.Pr) (w : World) (h : AvasIn w v xs) (hl : xs.length ≤ 9223372036854775807) : Calls Tryz.prog 36 #[v] w (FewRet05 xs w) := by
  obtain ⟨a, c, rfl, hc, hcase⟩ := h
  rcases hcase with rfl | ⟨g, o, rfl, hg, hcell⟩
  · go_enter Tryz.func36, Tryz.ntmps36
    go_wp2_with fail
    refine wp_loop_rounds 1 ?_
    rw [rounds_succ]
    go_wp2_with fail
    go_ret
    exact ⟨true, rfl, (fun _ => by simp), rfl⟩
  · generalize hn : xs.length = n at *
    have HN := Lib.hid hn
    have HCELL := Lib.hid hcell
    clear hn hcell
    go_enter Tryz.func36, Tryz.ntmps36
    go_wp2_with fail
    go_loop [6] (fun i => ∃ k : Nat, k ≤ n ∧ k ≤ 51 ∧ i = .int .i64 k ∧ Hid (∀ p ∈ xs.take k, p.1.length ≤ 1000 ∧ p.2.length ≤ 1000)) (fun i => n - (intOf i).toNat)
    case atStart => exact ⟨0, Nat.zero_le _, by omega, rfl, Lib.hid (by simp)⟩
    case round =>
      obtain ⟨k, hk, hk51, rfl, HA⟩ := hrel
      by_cases hlt : k < n
      · have hlt2 : k < xs.length := by rw [HN.out]; exact hlt
        obtain ⟨c0, c1⟩ := HCELL.out k _ (List.getElem?_eq_getElem hlt2)
        have HTK := Lib.hid (List.take_succ_eq_append_getElem hlt2)
        generalize xs[k] = p at *
        obtain ⟨t, u⟩ := p
        simp only at c0 c1
        unfold strV at c0 c1
        clear hlt2
        by_cases ht : 1000 < t.length
        · have h1 : decide ((1000 : Int) < (t.length : Int)) = true := decide_eq_true (by omega)
          have h2 : (1000 : Int) < (t.length : Int) := by omega
          go_wp2_with fail
          go_ret
          exact ⟨false, rfl, (fun h => by cases h), rfl⟩
        have h1 : decide ((1000 : Int) < (t.length : Int)) = false := decide_eq_false (by omega)
        by_cases hu : 1000 < u.length
        · have h2 : (1000 : Int) < (u.length : Int) := by omega
          go_wp2_with fail
          go_ret
          exact ⟨false, rfl, (fun h => by cases h), rfl⟩
        have h2 : decide ((1000 : Int) < (u.length : Int)) = false := decide_eq_false (by omega)
        by_cases hi : 50 < k
        · have h3 : (50 : Int) < (k : Int) := by omega
          go_wp2_with fail
          go_ret
          exact ⟨false, rfl, (fun h => by cases h), rfl⟩
        have h3 : decide ((50 : Int) < (k : Int)) = false := decide_eq_false (by omega)
        have HT : Hid (t.length ≤ 1000 ∧ u.length ≤ 1000) := Lib.hid ⟨by omega, by omega⟩
        have hi2 : k ≤ 50 := by omega
        clear ht hu hi
        go_wp2_with fail
        go_round
        case rel => exact ⟨k + 1, by omega, by omega, by go_num, Lib.hid (fun q hq => by
          rw [HTK.out] at hq
          rcases List.mem_append.1 hq with hq | hq
          · exact HA.out q hq
          · have := List.mem_singleton.1 hq; subst this; exact HT.out)⟩
        case measure => simp [intOf]; omega
      · have hall : xs.take k = xs := List.take_of_length_le (by rw [HN.out]; omega)
        have HR : Hid (xs.length ≤ 51 ∧ ∀ p ∈ xs, p.1.length ≤ 1000 ∧ p.2.length ≤ 1000) := Lib.hid ⟨by rw [HN.out]; omega, by have := HA.out; rwa [hall] at this⟩
        clear hall
        go_wp2_with fail
        go_ret
        exact ⟨true, rfl, fun _ => HR.out, rfl⟩
end Go.Proofs.YtjjbkldlgjllnaaGreatDoor
