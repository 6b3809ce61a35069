/- The walks of strings.Join at a comma, of the program's 'fit' and of the document's 'joined'. Conditions: those that each theorem states. -/
import Derived.Test.YthmlclnjkilkmaaGreatDoorRdo
import Derived.Test.YthmlclnjkilkmaaGreatDoorDnS
namespace Go.Proofs.YthmlclnjkilkmaaGreatDoor
open Go.RowKit

namespace DnS
open RdS
theorem join_snoc : ∀ (l : List (List UInt8)) (x : List UInt8), joinS (l ++ [x]) = if l = [] then x else joinS l ++ [44] ++ x
  | [], x => by rw [if_pos rfl]; exact Lib.join_one x [44]
  | [a], x => by
    rw [if_neg (by simp)]
    show Lib.join (a :: x :: []) [44] = Lib.join [a] [44] ++ [44] ++ x
    rw [RuS.join_cons_cons, Lib.join_one, Lib.join_one]
  | a :: b :: l, x => by
    have ih := join_snoc (b :: l) x
    rw [if_neg (by simp)] at ih ⊢
    unfold joinS at ih ⊢
    rw [List.cons_append, List.cons_append, RuS.join_cons_cons, RuS.join_cons_cons, ← List.cons_append, ih]
    simp
theorem join_take {ts : List (List UInt8)} {k : Nat} (h : k < ts.length) : joinS (ts.take (k + 1)) = if k = 0 then ts[k] else joinS (ts.take k) ++ [44] ++ ts[k] := by
  rw [List.take_succ_eq_append_getElem h, join_snoc]
  by_cases hk : k = 0
  · subst hk; simp
  · rw [if_neg hk, if_neg]
    intro h0
    have := congrArg List.length h0
    rw [List.length_take, List.length_nil, Nat.min_eq_left (by omega)] at this
    exact hk this
theorem join_len {M : Nat} : ∀ (ts : List (List UInt8)), (∀ t ∈ ts, t.length ≤ M) → (joinS ts).length ≤ ts.length * (M + 1)
  | [], _ => by simp [joinS, Lib.join, List.intercalate]
  | [a], h => by
    unfold joinS
    rw [Lib.join_one]
    have := h a (List.mem_singleton.2 rfl)
    simp; omega
  | a :: b :: l, h => by
    have ih := join_len (b :: l) (fun t ht => h t (List.mem_cons_of_mem _ ht))
    have := h a (List.mem_cons_self ..)
    unfold joinS at ih ⊢
    rw [RuS.join_cons_cons, List.length_append, List.length_append, List.length_singleton]
    have e : (a :: b :: l).length * (M + 1) = (b :: l).length * (M + 1) + (M + 1) := by rw [List.length_cons (a := a), Nat.succ_mul]
    omega
theorem join_take_len {ts : List (List UInt8)} {M : Nat} (h : ∀ t ∈ ts, t.length ≤ M) {n : Nat} (hn : ts.length ≤ n) (k : Nat) : (joinS (ts.take k)).length ≤ n * (M + 1) := by
  have h1 := join_len (ts.take k) (fun t ht => h t (List.mem_of_mem_take ht))
  refine Nat.le_trans h1 (Nat.mul_le_mul_right _ ?_)
  rw [List.length_take]; omega
end DnS
theorem fit_small {xs : List RdS.Pr} (h : RdS.formedS xs = true) : PairsFit xs := fun p hp => by
  have := (RdS.formed_small h).2 p hp
  omega

theorem join_c (v : Value) (ts : List (List UInt8)) (w : World) (h : StrsIn w v ts) (hn : ts.length ≤ 1000000) (hl : (DnS.joinS ts).length ≤ 1000000000) : Calls Tryz.prog 55 #[v, .string ⟨#[44]⟩] w fun e w' => e = .returned (.string ⟨(DnS.joinS ts).toArray⟩) ∧ Below w.heap.size w w' := by
  obtain ⟨a, c, rfl, hc, hcase⟩ := h
  by_cases h0 : ts = []
  · subst h0
    refine (Tryz.strings_Join_none a c ⟨#[44]⟩ w).mono ?_
    rintro e w' ⟨rfl, rfl⟩
    exact ⟨by simp [DnS.joinS, Lib.join, List.intercalate], Below.refl _ _⟩
  · rcases hcase with hcase | ⟨g, o, rfl, hg, hcell⟩
    · exact absurd hcase h0
    have hm : (ts.map (fun t : List UInt8 => (⟨t.toArray⟩ : ByteArray))).map (·.data.toList) = ts := by
      rw [List.map_map]
      conv => rhs; rw [← List.map_id ts]
      exact List.map_congr_left fun t _ => rfl
    have hj := Tryz.strings_Join g o c (ts.map (fun t : List UInt8 => (⟨t.toArray⟩ : ByteArray))) ⟨#[44]⟩ w (fun j x hx => by
      rw [List.getElem?_map] at hx
      obtain ⟨t, ht, rfl⟩ := Option.map_eq_some_iff.1 hx
      exact hcell j t ht) hg (by rw [List.length_map]; omega) (by rw [List.length_map]; exact hc) (by
      rw [hm]
      exact Nat.le_trans hl (by decide))
    rw [hm, List.length_map] at hj
    exact hj
set_option maxRecDepth 100000 in
theorem fit_c (v : Value) (ts : List (List UInt8)) (w : World) (h : StrsIn w v ts) (hn : ts.length ≤ 1000000) (hl : (DnS.joinS ts).length ≤ 1000000000) : Calls Tryz.prog 59 #[v] w fun e w' => e = .returned (.tuple #[.string ⟨(DnS.fitS ts).1.toArray⟩, .int .i64 (DnS.fitS ts).2]) ∧ Below w.heap.size w w' := by
  have hj := join_c v ts w h hn hl
  obtain ⟨a, c, rfl, hc, hcase⟩ := h
  clear hcase
  have HF : Hid (DnS.fitS ts = if 12 < ts.length ∨ 1000 < (DnS.joinS ts).length then ([], 4) else (DnS.joinS ts, 0)) := Lib.hid rfl
  generalize DnS.joinS ts = J at *
  generalize DnS.fitS ts = F at *
  generalize ts.length = n at *
  by_cases h12 : 12 < n
  · have hz : (12 : Int) < (n : Int) := by omega
    go_enter Tryz.func59, Tryz.ntmps59
    go_wp2_with fail
    refine hj.mono ?_; rintro e w1 ⟨rfl, hb⟩
    go_wp2_with fail
    go_ret2
    exact ⟨by rw [HF.out, if_pos (.inl h12)]; rfl, hb⟩
  · have hz : decide ((12 : Int) < (n : Int)) = false := decide_eq_false (by omega)
    by_cases h1000 : 1000 < J.length
    · have hz2 : (1000 : Int) < (J.length : Int) := by omega
      go_enter Tryz.func59, Tryz.ntmps59
      go_wp2_with fail
      refine hj.mono ?_; rintro e w1 ⟨rfl, hb⟩
      go_wp2_with fail
      go_ret2
      exact ⟨by rw [HF.out, if_pos (.inr h1000)]; rfl, hb⟩
    · have hz2 : decide ((1000 : Int) < (J.length : Int)) = false := decide_eq_false (by omega)
      go_enter Tryz.func59, Tryz.ntmps59
      go_wp2_with fail
      refine hj.mono ?_; rintro e w1 ⟨rfl, hb⟩
      go_wp2_with fail
      go_ret2
      exact ⟨by rw [HF.out, if_neg (fun h => h.elim h12 h1000)]; rfl, hb⟩

set_option maxRecDepth 100000 in
set_option maxHeartbeats 4000000 in
theorem joined_c (v : Value) (ts : List (List UInt8)) (w : World) (h : StrsIn w v ts) (hn : ts.length ≤ 100) (hl : ∀ t ∈ ts, t.length ≤ 3000) : Calls Tryz.prog 57 #[v] w fun e w' => e = .returned (.string ⟨(DnS.joinS ts).toArray⟩) ∧ w = w' := by
  obtain ⟨a, c, rfl, hc, hcase⟩ := h
  have HJL := Lib.hid (DnS.join_take_len hl hn)
  have HL := Lib.hid hl
  clear hl
  generalize hln : ts.length = n at *
  have HN := Lib.hid hln
  clear hln
  have HC : Hid (∀ k (h : k < ts.length), ∃ g o, a = some ⟨g, o, none⟩ ∧ g < w.heap.size ∧ w.cell? ⟨g, o + k, none⟩ = some (strV ts[k])) := Lib.hid (fun k hk => by
    rcases hcase with rfl | ⟨g, o, rfl, hg, hcell⟩
    · simp at hk
    · exact ⟨g, o, rfl, hg, hcell k _ (List.getElem?_eq_getElem hk)⟩)
  clear hcase
  go_enter Tryz.func57, Tryz.ntmps57
  go_wp2_with fail
  go_loop [3, 7] (fun s i => ∃ k : Nat, k ≤ n ∧ i = .int .i64 k ∧ s = .string ⟨(DnS.joinS (ts.take k)).toArray⟩) (fun _ i => n - (intOf i).toNat)
  case atStart => exact ⟨0, Nat.zero_le _, rfl, by simp [DnS.joinS, Lib.join, List.intercalate]⟩
  case round =>
    obtain ⟨k, hk, rfl, rfl⟩ := hrel
    by_cases hlt : k < n
    · have hlt2 : k < ts.length := by rw [HN.out]; exact hlt
      obtain ⟨g, o, rfl, hg, hcx⟩ := HC.out k hlt2
      have HJ2 := Lib.hid (DnS.join_take hlt2)
      have HACC : Hid (k = 0 → DnS.joinS (ts.take k) = []) := Lib.hid (fun h => by subst h; simp [DnS.joinS, Lib.join, List.intercalate])
      have hjl := HJL.out k
      have hpl := HL.out ts[k] (List.getElem_mem hlt2)
      generalize ts[k] = p at *
      unfold strV at hcx
      generalize DnS.joinS (ts.take k) = acc at *
      clear hlt2
      by_cases hk0 : k = 0
      · have hkz : decide ((0 : Int) < (k : Int)) = false := decide_eq_false (by omega)
        have hkz2 : decide (0 < k) = false := decide_eq_false (by omega)
        have HJ3 : Hid (DnS.joinS (ts.take (k + 1)) = acc ++ p) := Lib.hid (by
          rw [HJ2.out, if_pos hk0, HACC.out hk0]; rfl)
        have ha := cat_lit acc p (by omega) (by omega)
        clear hk0
        go_wp2_with fail
        go_round
        case rel => exact ⟨k + 1, by omega, by go_num, by rw [HJ3.out]⟩
        case measure => simp [intOf]; omega
      · have hkz : (0 : Int) < (k : Int) := by omega
        have hkz2 : 0 < k := by omega
        have HJ3 : Hid (DnS.joinS (ts.take (k + 1)) = acc ++ [44] ++ p) := Lib.hid (by
          rw [HJ2.out, if_neg hk0])
        have ha := cat_lit acc [44] (by omega) (by decide)
        have hy1l : (acc ++ [44]).length ≤ 2000000 := by rw [List.length_append, List.length_singleton]; omega
        have hap := mk_app acc [44]
        obtain ⟨y1, hy1⟩ : ∃ y1, y1 = acc ++ [44] := ⟨_, rfl⟩
        rw [← hy1] at ha hy1l HJ3 hap
        have ha2 := cat_lit y1 p hy1l (by omega)
        clear hk0 hy1
        go_wp2_with fail
        go_round
        case rel => exact ⟨k + 1, by omega, by go_num, by rw [HJ3.out]⟩
        case measure => simp [intOf]; omega
    · have hkn : k = n := by omega
      subst hkn
      have HALL : Hid (ts.take k = ts) := Lib.hid (List.take_of_length_le (by rw [HN.out]; omega))
      go_wp2_with fail
      go_ret
      exact ⟨by rw [HALL.out]; rfl, rfl⟩
end Go.Proofs.YthmlclnjkilkmaaGreatDoor
