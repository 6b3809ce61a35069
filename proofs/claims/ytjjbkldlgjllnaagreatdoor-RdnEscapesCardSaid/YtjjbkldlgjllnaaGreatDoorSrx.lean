/- The walk of slices.SortStableFunc at pairs: up to 20 of them are sorted; more of them stay as many. Conditions: the row has fewer than 1000000000 pairs. -/
import Derived.Test.YtjjbkldlgjllnaaGreatDoorSry
import Derived.Sort.LotA
namespace Go.Proofs.YtjjbkldlgjllnaaGreatDoor
open Go.Shelf Go.RowKit Go.Lib Go.Sort Go.Proofs

theorem ltOf_cfP (x y : RdS.Pr) : ltOf cfP x y = Op.bytesLess x.1 y.1 := by
  unfold ltOf cfP
  rw [RuS.less_iff]
  have := RuS.compare_range x.1 y.1
  exact decide_eq_decide.2 ⟨fun h => by omega, fun h => by omega⟩
theorem cfP_swo : SWO (ltOf cfP) where
  irrefl x := by rw [ltOf_cfP, RuS.less_iff, RuS.compare_self]; rfl
  trans x y z h1 h2 := by rw [ltOf_cfP] at *; exact RdS.less_trans h1 h2
  ntrans x y z h1 h2 := by rw [ltOf_cfP] at *; exact RdS.le2_trans (a := z) (b := y) (c := x) h2 h1
set_option maxHeartbeats 8000000 in
set_option maxRecDepth 1000000 in
/-- up to 19 pairs: one insertion sort -/
theorem stable_few (blk off cap : Nat) (d : Array RdS.Pr) (w : World) (hH : HoldsK encP 2 w blk off d) (hblk : blk < w.heap.size) (hsz : d.size < 20) :
    Calls Tryz.prog 88 #[.slice (some ⟨blk, off, none⟩) d.size cap, cmpV] w fun e w' => e = .returned (.tuple #[]) ∧ ∃ n os, w' = sortWorldK encP 2 w blk off n (Sort.insertionSort (ltOf cfP) d 0 d.size) os := by
  have hins := inssort_c blk off cap 0 d.size d w hH hblk (Nat.zero_le _) (Nat.le_refl _) (by omega)
  generalize Sort.insertionSort (ltOf cfP) d 0 d.size = res at *
  generalize d.size = sz at *
  unfold cmpV at *
  clear hH
  have hst : Calls Tryz.prog 134 #[.slice (some ⟨blk, off, none⟩) sz cap, .int .i64 sz, .func (.func 89) #[] #[]] w fun e w' => e = .returned (.tuple #[]) ∧ ∃ n os, w' = sortWorldK encP 2 w blk off n res os := by
    have h20 : ¬ (20 : Int) ≤ (sz : Int) := by omega
    have h21 : ¬ (20 : Int) < (sz : Int) := by omega
    go_enter Tryz.func134, Tryz.ntmps134
    go_wp2
    refine wp_loop_rounds 1 ?_
    rw [rounds_succ]
    go_wp2_with (go_at_call 167; refine hins.mono ?_; rintro e w1 ⟨rfl, n, os, rfl⟩)
    generalize hw1 : sortWorldK encP 2 w blk off n res os = w1 at *
    refine wp_loop_rounds 1 ?_
    rw [rounds_succ]
    go_wp2
    go_end0
    exact ⟨rfl, n, os, hw1.symm⟩
  go_enter Tryz.func88, Tryz.ntmps88
  go_wp2_with (go_at_call 134; refine hst.mono ?_; rintro e w1 ⟨rfl, hs⟩)
  go_end0
  exact ⟨rfl, hs⟩

theorem inssort_weak (w0 : World) (blk off cap : Nat) (d : Array RdS.Pr) (hH : HoldsK encP 2 w0 blk off d) (hblk : blk < w0.heap.size) (hsz : d.size < 1000000000) (a b : Nat) (hab : a ≤ b) (hb : b ≤ d.size) (w : World) (hw : SW w0 blk off d.size w) :
    Calls Tryz.prog 167 #[.slice (some ⟨blk, off, none⟩) d.size cap, .int .i64 a, .int .i64 b, cmpV] w (Swp w0 blk off d.size) := by
  obtain ⟨m, dk, o, hs, rfl⟩ := hw
  have hHd : HoldsK encP 2 (sortWorldK encP 2 w0 blk off m dk o) blk off dk := holdsK_sortWorldK_c encP 2 w0 blk off d dk m o hH hblk hs
  have h := inssort_c blk off cap a b dk (sortWorldK encP 2 w0 blk off m dk o) hHd (Nat.lt_of_lt_of_le hblk (size_sortWorldK_c encP 2 w0 blk off m dk o)) hab (by omega) (by omega)
  rw [hs] at h
  refine h.mono ?_
  rintro e w' ⟨rfl, n, os, rfl⟩
  have hp := (insertionSort_holds cfP_swo dk a b hab (by omega)).1.1
  refine ⟨rfl, m + n, Sort.insertionSort (ltOf cfP) dk a b, o ++ os, by rw [← hs]; exact hp, ?_⟩
  exact grow_step_growK encP 2 w0 o os m n blk off dk _ hblk hp

set_option maxHeartbeats 8000000 in
set_option maxRecDepth 1000000 in
theorem stable_weak (w0 : World) (blk off cap : Nat) (d : Array RdS.Pr) (hH : HoldsK encP 2 w0 blk off d) (hblk : blk < w0.heap.size) (hsz : d.size < 1000000000) (w : World) (hw : SW w0 blk off d.size w) :
    Calls Tryz.prog 134 #[.slice (some ⟨blk, off, none⟩) d.size cap, .int .i64 d.size, cmpV] w (Swp w0 blk off d.size) := by
  have hins := fun a b h1 h2 w hw => inssort_weak w0 blk off cap d hH hblk hsz a b h1 h2 w hw
  have hsym := fun a m b h1 h2 h3 w hw => symmerge_c w0 blk off cap d hH hblk hsz (b - a) a m b (Nat.le_refl _) h1 h2 h3 w hw
  unfold Swp cmpV at *
  have HINS := Lib.hid hins
  have HSYM := Lib.hid hsym
  have HW := Lib.hid hw
  clear hins hsym hH hw
  generalize d.size = n at *
  go_enter Tryz.func134, Tryz.ntmps134
  go_wp2
  go_loopg [7, 8] n (fun g1 va vb wr => ∃ (a b : Nat), va = .int .i64 a ∧ vb = .int .i64 b ∧ b = a + 20 ∧ a ≤ n ∧ n - a ≤ g1 ∧ Hid (SW w0 blk off n wr))
  case atStart => exact ⟨0, 20, rfl, rfl, rfl, Nat.zero_le _, by omega, HW⟩
  case round =>
    obtain ⟨a, b, rfl, rfl, hb, han, hg1, HS⟩ := hrel
    have hab : a ≤ b := by omega
    have hb2 : b ≤ a + 20 := by omega
    have hb3 : a < b := by omega
    clear hb
    by_cases hlt : b ≤ n
    · have hz : (b : Int) ≤ (n : Int) := by omega
      obtain ⟨b2, hb4⟩ : ∃ b2 : Nat, (b : Int) + 20 = (b2 : Int) := ⟨b + 20, by omega⟩
      have wb2 : IntKind.i64.wrap (b2 : Int) = (b2 : Int) := by rw [IntKind.wrap_i64]; omega
      go_wp2_with (go_at_call 167; refine (HINS.out a b (by omega) (by omega) _ HS.out).mono ?_; rintro e w1 ⟨rfl, hs1⟩)
      go_roundg (n - b)
      case measure => omega
      case rel => exact ⟨b, b2, rfl, rfl, by omega, hlt, Nat.le_refl _, Lib.hid hs1⟩
    · have hz : ¬ (b : Int) ≤ (n : Int) := by omega
      go_wp2_with (go_at_call 167; refine (HINS.out a n (by omega) (by omega) _ HS.out).mono ?_; rintro e w1 ⟨rfl, hs1⟩)
      go_loopg [6, 7, 8, 9] n (fun g1 vs va vb vm wr => ∃ (s : Nat), vs = .int .i64 s ∧ 1 ≤ s ∧ s ≤ 2000000000 ∧ n - s ≤ g1 ∧ Hid (SW w0 blk off n wr))
      case atStart => exact ⟨20, rfl, by omega, by omega, by omega, Lib.hid hs1⟩
      case round =>
        obtain ⟨s, rfl, hs1, hs2, hg2, HS2⟩ := hrel
        by_cases hlt2 : s < n
        · have hz2 : (s : Int) < (n : Int) := by omega
          obtain ⟨t, ht⟩ : ∃ t : Nat, (2 : Int) * (s : Int) = (t : Int) := ⟨2 * s, by omega⟩
          have ht2 : (s : Int) * 2 = (t : Int) := by omega
          have wt : IntKind.i64.wrap (t : Int) = (t : Int) := by rw [IntKind.wrap_i64]; omega
          go_wp2
          go_loopg [7, 8] n (fun g1 va vb wr => ∃ (a b : Nat), va = .int .i64 a ∧ vb = .int .i64 b ∧ b ≤ a + t ∧ a + t ≤ b ∧ a ≤ n ∧ n - a ≤ g1 ∧ Hid (SW w0 blk off n wr))
          case atStart => exact ⟨0, t, rfl, rfl, by omega, by omega, Nat.zero_le _, by omega, HS2⟩
          case round =>
            obtain ⟨a, b, rfl, rfl, hb5, hb6, han, hg1, HS⟩ := hrel
            obtain ⟨m, hm⟩ : ∃ m : Nat, (a : Int) + (s : Int) = (m : Int) := ⟨a + s, by omega⟩
            have wm : IntKind.i64.wrap (m : Int) = (m : Int) := by rw [IntKind.wrap_i64]; omega
            by_cases hlt3 : b ≤ n
            · have hz3 : (b : Int) ≤ (n : Int) := by omega
              obtain ⟨b2, hb4⟩ : ∃ b2 : Nat, (b : Int) + (t : Int) = (b2 : Int) := ⟨b + t, by omega⟩
              have wb2 : IntKind.i64.wrap (b2 : Int) = (b2 : Int) := by rw [IntKind.wrap_i64]; omega
              go_wp2_with (go_at_call 168; refine (HSYM.out a m b (by omega) (by omega) (by omega) _ HS.out).mono ?_; rintro e w1 ⟨rfl, hs3⟩)
              go_roundg (n - b)
              case measure => omega
              case rel => exact ⟨b, b2, rfl, rfl, by omega, by omega, hlt3, Nat.le_refl _, Lib.hid hs3⟩
            · have hz3 : ¬ (b : Int) ≤ (n : Int) := by omega
              by_cases hlt4 : m < n
              · have hz4 : (m : Int) < (n : Int) := by omega
                go_wp2_with (go_at_call 168; refine (HSYM.out a m n (by omega) (by omega) (by omega) _ HS.out).mono ?_; rintro e w1 ⟨rfl, hs3⟩)
                go_roundg (n - t)
                case measure => omega
                case rel => exact ⟨t, rfl, by omega, by omega, Nat.le_refl _, Lib.hid hs3⟩
              · have hz4 : ¬ (m : Int) < (n : Int) := by omega
                go_wp2
                go_roundg (n - t)
                case measure => omega
                case rel => exact ⟨t, rfl, by omega, by omega, Nat.le_refl _, HS⟩
        · have hz2 : ¬ (s : Int) < (n : Int) := by omega
          go_wp2
          go_end0
          exact ⟨rfl, HS2.out⟩
theorem sort_weak (w0 : World) (blk off cap : Nat) (d : Array RdS.Pr) (hH : HoldsK encP 2 w0 blk off d) (hblk : blk < w0.heap.size) (hsz : d.size < 1000000000) :
    Calls Tryz.prog 88 #[.slice (some ⟨blk, off, none⟩) d.size cap, cmpV] w0 (Swp w0 blk off d.size) := by
  have hst := stable_weak w0 blk off cap d hH hblk hsz w0 ⟨0, d, #[], rfl, by unfold sortWorldK; rw [grow_empty]; exact (putRowK_self encP 2 w0 blk off d hH).symm⟩
  unfold Swp cmpV at *
  clear hH
  generalize d.size = n at *
  go_enter Tryz.func88, Tryz.ntmps88
  go_wp2_with (go_at_call 134; refine hst.mono ?_; rintro e w1 ⟨rfl, hs⟩)
  go_end0
  exact ⟨rfl, hs⟩
end Go.Proofs.YtjjbkldlgjllnaaGreatDoor
