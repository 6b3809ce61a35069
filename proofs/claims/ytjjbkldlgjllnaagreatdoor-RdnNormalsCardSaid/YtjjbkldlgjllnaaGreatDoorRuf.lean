/- The walks of the laws' helpers 'awake' and 'few'. Condition: the library's variables are laid. -/
import Derived.Test.YtjjbkldlgjllnaaGreatDoorRue
namespace Go.Proofs.YtjjbkldlgjllnaaGreatDoor
open Go.RowKit

theorem awake04_is : RuS.normal [67, 78] [32, 65, 110, 110, 32, 32, 76, 69, 69, 32] = ([97, 110, 110, 32, 108, 101, 101], 0) := by decide +kernel

set_option maxRecDepth 100000 in
theorem awake04_c (w : World) (hE : Env w) : Calls Tryz.prog 20 #[] w (True_ w) := by
  have hn := rulenormal_c ⟨#[67, 78]⟩ ⟨#[32, 65, 110, 110, 32, 32, 76, 69, 69, 32]⟩ (by decide) (by decide) w hE
  unfold NormRet at hn
  have he : RuS.normal (⟨#[67, 78]⟩ : ByteArray).data.toList (⟨#[32, 65, 110, 110, 32, 32, 76, 69, 69, 32]⟩ : ByteArray).data.toList = ([97, 110, 110, 32, 108, 101, 101], 0) := awake04_is
  rw [he] at hn
  clear he
  go_enter Tryz.func20, Tryz.ntmps20
  go_wp2_with fail
  refine hn.mono ?_
  rintro e w1 ⟨rfl, hb⟩
  go_wp2_with fail
  go_ret
  exact ⟨rfl, hb⟩

def FewRet (n : Nat) (xs : List (List UInt8)) (w : World) (e : Ending) (w' : World) : Prop := e = .returned (.bool (xs.all fun x => decide (x.length ≤ n))) ∧ w = w'
def FewLoop (xs : List (List UInt8)) (i : Value) : Prop := ∃ k : Nat, k ≤ xs.length ∧ i = .int .i64 k ∧ (xs.take k).all (fun x => decide (x.length ≤ 3000)) = true
theorem all_take_no {xs : List (List UInt8)} {k n : Nat} (h : k < xs.length) (hx : n < xs[k].length) : xs.all (fun x => decide (x.length ≤ n)) = false := by
  rw [List.all_eq_false]
  exact ⟨xs[k], List.getElem_mem h, by simp; omega⟩

set_option maxRecDepth 100000 in
theorem few04_c (v : Value) (xs : List (List UInt8)) (w : World) (h : StrsIn w v xs) (hl : xs.length ≤ 1000000) : Calls Tryz.prog 21 #[v] w (FewRet 3000 xs w) := by
  obtain ⟨a, c, rfl, hc, h⟩ := h
  rcases h with rfl | ⟨g, o, rfl, hg, h⟩
  · go_enter Tryz.func21, Tryz.ntmps21
    go_wp2_with fail
    refine wp_loop_rounds 1 ?_
    rw [rounds_succ]
    go_wp2_with fail
    go_ret
    exact ⟨rfl, rfl⟩
  · generalize hn : xs.length = n at *
    have HN := Lib.hid hn
    have H := Lib.hid h
    clear hn h
    go_enter Tryz.func21, Tryz.ntmps21
    go_wp2_with fail
    go_loop [6] (fun i => FewLoop xs i) (fun i => n - (intOf i).toNat)
    case atStart => exact ⟨0, Nat.zero_le _, rfl, rfl⟩
    case round =>
      obtain ⟨k, hk, rfl, hd⟩ := hrel
      rw [HN.out] at hk
      have HD := Lib.hid hd
      clear hd
      by_cases hlt : k < n
      · have hlt2 : k < xs.length := by rw [HN.out]; exact hlt
        have hcell := StrsIn.at H.out hlt2
        unfold strV at hcell
        have HNO := Lib.hid (fun hx => all_take_no (n := 3000) hlt2 hx)
        have HT : Hid (xs.take (k + 1) = xs.take k ++ [xs[k]]) := Lib.hid (List.take_succ_eq_append_getElem hlt2)
        generalize xs[k] = x at *
        clear hlt2
        by_cases hx : 3000 < x.length
        · have HX := Lib.hid hx
          have hd1 : decide ((3000 : Int) < (x.length : Int)) = true := decide_eq_true (by omega)
          clear hx
          go_wp2_with fail
          go_ret
          exact ⟨by rw [HNO.out HX.out]; rfl, rfl⟩
        · have HX : Hid (decide (x.length ≤ 3000) = true) := Lib.hid (decide_eq_true (by omega))
          have hd1 : decide ((3000 : Int) < (x.length : Int)) = false := decide_eq_false (by omega)
          clear hx
          go_wp2_with fail
          go_round
          case rel => exact ⟨k + 1, by rw [HN.out]; omega, by go_num, by rw [HT.out, List.all_append, HD.out]; simp only [List.all_cons, List.all_nil, HX.out]; rfl⟩
          case measure => simp [intOf]; omega
      · have hkn : k = n := by omega
        have hall : xs.take k = xs := List.take_of_length_le (by rw [HN.out]; omega)
        have HA : Hid (xs.all (fun x => decide (x.length ≤ 3000)) = true) := Lib.hid (by have := HD.out; rw [hall] at this; exact this)
        clear hall
        go_wp2_with fail
        go_ret
        exact ⟨by rw [HA.out]; rfl, rfl⟩

/-- a list of texts that a call has just laid -/
theorem StrsIn.laid (w : World) (xs : List (List UInt8)) (n : Nat) (hn : xs.length = n) : StrsIn (w.alloc (.cells (xs.map strV).toArray 9)) (.slice (some ⟨w.heap.size, 0, none⟩) n n) xs := by
  subst hn
  refine ⟨_, _, rfl, Nat.le_refl _, .inr ⟨w.heap.size, 0, rfl, by simp, fun j y hj => ?_⟩⟩
  have h := (Whole.made w 9 (xs.map strV).toArray).cell j
  rw [Nat.zero_add, h]
  simp [hj]

end Go.Proofs.YtjjbkldlgjllnaaGreatDoor
