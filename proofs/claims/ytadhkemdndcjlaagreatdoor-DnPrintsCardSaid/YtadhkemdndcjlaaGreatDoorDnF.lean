/- The walks of the laws' helpers few and awake of names. Condition: the library's variables are laid. -/
import Derived.Test.YtadhkemdndcjlaaGreatDoorRue
import Derived.Test.YtadhkemdndcjlaaGreatDoorDnd
namespace Go.Proofs.YtadhkemdndcjlaaGreatDoor
open Go.RowKit

set_option maxRecDepth 100000 in
theorem few06_c (v : Value) (xs : List (List UInt8)) (w : World) (h : StrsIn w v xs) (hl : xs.length ≤ 1000000) : Calls Tryz.prog 26 #[v] w (FewRet 3000 xs w) := by
  obtain ⟨a, c, rfl, hc, h⟩ := h
  rcases h with rfl | ⟨g, o, rfl, hg, h⟩
  · go_enter Tryz.func26, Tryz.ntmps26
    go_wp2_with fail
    refine wp_loop_rounds 1 ?_
    rw [rounds_succ]
    go_wp2_with fail
    go_ret
    exact ⟨rfl, rfl⟩
  · generalize hn : xs.length = n at *
    have HN := Lib.hid hn
    have H := Lib.hid h
    clear hn h
    go_enter Tryz.func26, Tryz.ntmps26
    go_wp2_with fail
    go_loop [6] (fun i => FewLoop xs i) (fun i => n - (intOf i).toNat)
    case atStart => exact ⟨0, Nat.zero_le _, rfl, rfl⟩
    case round =>
      obtain ⟨k, hk, rfl, hd⟩ := hrel
      rw [HN.out] at hk
      have HD := Lib.hid hd
      clear hd
      by_cases hlt : k < n
      · have hlt2 : k < xs.length := by rw [HN.out]; exact hlt
        have hcell := StrsIn.at H.out hlt2
        unfold strV at hcell
        have HNO := Lib.hid (fun hx => all_take_no (n := 3000) hlt2 hx)
        have HT : Hid (xs.take (k + 1) = xs.take k ++ [xs[k]]) := Lib.hid (List.take_succ_eq_append_getElem hlt2)
        generalize xs[k] = x at *
        clear hlt2
        by_cases hx : 3000 < x.length
        · have HX := Lib.hid hx
          have hd1 : decide ((3000 : Int) < (x.length : Int)) = true := decide_eq_true (by omega)
          clear hx
          go_wp2_with fail
          go_ret
          exact ⟨by rw [HNO.out HX.out]; rfl, rfl⟩
        · have HX : Hid (decide (x.length ≤ 3000) = true) := Lib.hid (decide_eq_true (by omega))
          have hd1 : decide ((3000 : Int) < (x.length : Int)) = false := decide_eq_false (by omega)
          clear hx
          go_wp2_with fail
          go_round
          case rel => exact ⟨k + 1, by rw [HN.out]; omega, by go_num, by rw [HT.out, List.all_append, HD.out]; simp only [List.all_cons, List.all_nil, HX.out]; rfl⟩
          case measure => simp [intOf]; omega
      · have hkn : k = n := by omega
        have hall : xs.take k = xs := List.take_of_length_le (by rw [HN.out]; omega)
        have HA : Hid (xs.all (fun x => decide (x.length ≤ 3000)) = true) := Lib.hid (by have := HD.out; rw [hall] at this; exact this)
        clear hall
        go_wp2_with fail
        go_ret
        exact ⟨by rw [HA.out]; rfl, rfl⟩

theorem awake06_is : DnS.normN [67, 78, 61, 65, 110, 110, 44, 68, 67, 61, 88] = ([99, 110, 61, 97, 110, 110, 44, 100, 99, 61, 120], 0) := by decide +kernel

set_option maxRecDepth 100000 in
theorem awake06_c (w : World) (hE : Env w) : Calls Tryz.prog 25 #[] w (True_ w) := by
  have hn := dnnormal_c [67, 78, 61, 65, 110, 110, 44, 68, 67, 61, 88] (by decide) w hE
  unfold NmTxt at hn
  rw [awake06_is] at hn
  go_enter Tryz.func25, Tryz.ntmps25
  go_wp2_with fail
  refine hn.mono ?_
  rintro e w1 ⟨rfl, hb⟩
  go_wp2_with fail
  go_ret
  exact ⟨rfl, hb⟩
end Go.Proofs.YtadhkemdndcjlaaGreatDoor
