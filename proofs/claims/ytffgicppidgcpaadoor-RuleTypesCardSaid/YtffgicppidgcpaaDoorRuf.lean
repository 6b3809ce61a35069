/- The walks of the laws' helpers 'awake' and 'few', and of the law of types. Condition: the library's variables are laid. -/
import Derived.Test.YtffgicppidgcpaaDoorRue
import Derived.Test.YtffgicppidgcpaaDoorPhj
namespace Go.Proofs.YtffgicppidgcpaaDoor
open Go.RowKit

theorem awake04_is : RuS.normal [67, 78] [32, 65, 110, 110, 32, 32, 76, 69, 69, 32] = ([97, 110, 110, 32, 108, 101, 101], 0) := by decide +kernel

set_option maxRecDepth 100000 in
theorem awake04_c (w : World) (hE : Env w) : Calls Tryd.prog 27 #[] w (True_ w) := by
  have hn := rulenormal_c ⟨#[67, 78]⟩ ⟨#[32, 65, 110, 110, 32, 32, 76, 69, 69, 32]⟩ (by decide) (by decide) w hE
  unfold NormRet at hn
  have he : RuS.normal (⟨#[67, 78]⟩ : ByteArray).data.toList (⟨#[32, 65, 110, 110, 32, 32, 76, 69, 69, 32]⟩ : ByteArray).data.toList = ([97, 110, 110, 32, 108, 101, 101], 0) := awake04_is
  rw [he] at hn
  clear he
  go_enter Tryd.func27, Tryd.ntmps27
  go_wp2_with fail
  refine hn.mono ?_
  rintro e w1 ⟨rfl, hb⟩
  go_wp2_with fail
  go_ret
  exact ⟨rfl, hb⟩

def FewRet (n : Nat) (xs : List (List UInt8)) (w : World) (e : Ending) (w' : World) : Prop := e = .returned (.bool (xs.all fun x => decide (x.length ≤ n))) ∧ w = w'
def FewLoop (xs : List (List UInt8)) (i : Value) : Prop := ∃ k : Nat, k ≤ xs.length ∧ i = .int .i64 k ∧ (xs.take k).all (fun x => decide (x.length ≤ 3000)) = true
theorem all_take_no {xs : List (List UInt8)} {k n : Nat} (h : k < xs.length) (hx : n < xs[k].length) : xs.all (fun x => decide (x.length ≤ n)) = false := by
  rw [List.all_eq_false]
  exact ⟨xs[k], List.getElem_mem h, by simp; omega⟩

set_option maxRecDepth 100000 in
theorem few04_c (v : Value) (xs : List (List UInt8)) (w : World) (h : StrsIn w v xs) (hl : xs.length ≤ 1000000) : Calls Tryd.prog 28 #[v] w (FewRet 3000 xs w) := by
  obtain ⟨a, c, rfl, hc, h⟩ := h
  rcases h with rfl | ⟨g, o, rfl, hg, h⟩
  · go_enter Tryd.func28, Tryd.ntmps28
    go_wp2_with fail
    refine wp_loop_rounds 1 ?_
    rw [rounds_succ]
    go_wp2_with fail
    go_ret
    exact ⟨rfl, rfl⟩
  · generalize hn : xs.length = n at *
    have HN := Lib.hid hn
    have H := Lib.hid h
    clear hn h
    go_enter Tryd.func28, Tryd.ntmps28
    go_wp2_with fail
    go_loop [6] (fun i => FewLoop xs i) (fun i => n - (intOf i).toNat)
    case atStart => exact ⟨0, Nat.zero_le _, rfl, rfl⟩
    case round =>
      obtain ⟨k, hk, rfl, hd⟩ := hrel
      rw [HN.out] at hk
      have HD := Lib.hid hd
      clear hd
      by_cases hlt : k < n
      · have hlt2 : k < xs.length := by rw [HN.out]; exact hlt
        have hcell := StrsIn.at H.out hlt2
        unfold strV at hcell
        have HNO := Lib.hid (fun hx => all_take_no (n := 3000) hlt2 hx)
        have HT : Hid (xs.take (k + 1) = xs.take k ++ [xs[k]]) := Lib.hid (List.take_succ_eq_append_getElem hlt2)
        generalize xs[k] = x at *
        clear hlt2
        by_cases hx : 3000 < x.length
        · have HX := Lib.hid hx
          have hd1 : decide ((3000 : Int) < (x.length : Int)) = true := decide_eq_true (by omega)
          clear hx
          go_wp2_with fail
          go_ret
          exact ⟨by rw [HNO.out HX.out]; rfl, rfl⟩
        · have HX : Hid (decide (x.length ≤ 3000) = true) := Lib.hid (decide_eq_true (by omega))
          have hd1 : decide ((3000 : Int) < (x.length : Int)) = false := decide_eq_false (by omega)
          clear hx
          go_wp2_with fail
          go_round
          case rel => exact ⟨k + 1, by rw [HN.out]; omega, by go_num, by rw [HT.out, List.all_append, HD.out]; simp only [List.all_cons, List.all_nil, HX.out]; rfl⟩
          case measure => simp [intOf]; omega
      · have hkn : k = n := by omega
        have hall : xs.take k = xs := List.take_of_length_le (by rw [HN.out]; omega)
        have HA : Hid (xs.all (fun x => decide (x.length ≤ 3000)) = true) := Lib.hid (by have := HD.out; rw [hall] at this; exact this)
        clear hall
        go_wp2_with fail
        go_ret
        exact ⟨by rw [HA.out]; rfl, rfl⟩

/-- a list of texts that a call has just laid -/
theorem StrsIn.laid (w : World) (xs : List (List UInt8)) (n : Nat) (hn : xs.length = n) : StrsIn (w.alloc (.cells (xs.map strV).toArray 9)) (.slice (some ⟨w.heap.size, 0, none⟩) n n) xs := by
  subst hn
  refine ⟨_, _, rfl, Nat.le_refl _, .inr ⟨w.heap.size, 0, rfl, by simp, fun j y hj => ?_⟩⟩
  have h := (Whole.made w 9 (xs.map strV).toArray).cell j
  rw [Nat.zero_add, h]
  simp [hj]

set_option maxRecDepth 100000 in
theorem types_c (s : ByteArray) (hs : s.size ≤ 9223372036854775807) (w : World) (hE : Env w) : Calls Tryd.prog 9 #[.string s] w (True_ w) := by
  have hfew := fun w => few04_c (.slice (some ⟨w.heap.size, 0, none⟩) 1 1) [s.data.toList] _ (StrsIn.laid w [s.data.toList] 1 rfl) (by simp)
  unfold FewRet at hfew
  have e1 : strV s.data.toList = .string s := by unfold strV; rw [mk_str]
  simp only [List.map_cons, List.map_nil, e1, List.all_cons, List.all_nil, Bool.and_true] at hfew
  have ht := fun w => type_c s hs w
  have hr := fun w => reftype_c s hs w
  have hlo := fun w => reflower_c s hs w
  have ht2 := fun w => type_c ⟨(RuS.lower s.data.toList).toArray⟩ (by show (RuS.lower s.data.toList).length ≤ _; rw [RuS.lower_length, ← Lib.size_eq]; exact hs) w
  unfold TypeRet at ht hr ht2
  unfold LowRet at hlo
  have hdl : (⟨(RuS.lower s.data.toList).toArray⟩ : ByteArray).data.toList = RuS.lower s.data.toList := rfl
  rw [hdl, RuS.typeOf_lower] at ht2
  clear hdl e1
  generalize RuS.lower s.data.toList = lo at *
  generalize RuS.typeOf s.data.toList = r at *
  obtain ⟨t, sy⟩ := r
  simp only at ht hr ht2
  cases hq : decide (s.data.toList.length ≤ 3000) with
  | false =>
    rw [hq] at hfew
    clear hq
    go_enter Tryd.func9, Tryd.ntmps9
    go_wp2_with fail
    refine (awake04_c _ hE).mono ?_; rintro e w1 ⟨rfl, hb1⟩
    go_wp2_with fail
    refine (hfew _).mono ?_; rintro e w2 ⟨rfl, rfl⟩
    go_wp2_with fail
    refine (awake04_c _ ((hE.below hb1).alloc _)).mono ?_; rintro e w2 ⟨rfl, hb2⟩
    go_wp2_with fail
    go_ret
    exact ⟨rfl, below_trans (below_trans hb1 (grow1 _ _)) hb2⟩
  | true =>
    rw [hq] at hfew
    clear hq
    go_enter Tryd.func9, Tryd.ntmps9
    go_wp2_with fail
    refine (awake04_c _ hE).mono ?_; rintro e w1 ⟨rfl, hb1⟩
    go_wp2_with fail
    refine (hfew _).mono ?_; rintro e w2 ⟨rfl, rfl⟩
    go_wp2_with fail
    refine (ht _).mono ?_; rintro e w2 ⟨rfl, hb2⟩
    go_wp2_with fail
    refine (hr _).mono ?_; rintro e w3 ⟨rfl, hb3⟩
    go_wp2_with fail
    refine (hlo _).mono ?_; rintro e w4 ⟨rfl, hb4⟩
    go_wp2_with fail
    refine (ht2 _).mono ?_; rintro e w5 ⟨rfl, hb5⟩
    go_wp2_with fail
    go_ret
    exact ⟨rfl, below_trans (below_trans (below_trans (below_trans (below_trans hb1 (grow1 _ _)) hb2) hb3) hb4) hb5⟩
end Go.Proofs.YtffgicppidgcpaaDoor
