/- The walk of the law RdnEscapes. Condition: the library's variables are laid. -/
import Derived.Test.YtjjbkldlgjllnaaGreatDoorRdn
import Derived.Test.YtjjbkldlgjllnaaGreatDoorRdo
import Derived.Deep.DrawnRows
import Derived.Deep.RegionHeld3
namespace Go.Proofs.YtjjbkldlgjllnaaGreatDoor
open Go.RowKit
attribute [local go_sem ↓] Go.wp_at_zero Go.wp_at_succ

theorem text_one (p : RdS.Pr) : RdS.textTo [p] 1 = RdS.pairT p := by
  rw [RdS.textTo_succ [p] 0 (by simp)]
  simp [RdS.textTo]
theorem pair_print {p : RdS.Pr} (h : (RuS.typeOf p.1).1 = p.1) : ∀ b ∈ RdS.pairT p, 32 ≤ b.toNat ∧ b.toNat ≤ 126 := by
  intro b hb
  unfold RdS.pairT at hb
  rcases List.mem_append.1 hb with hb | hb
  · rcases List.mem_append.1 hb with hb | hb
    · have := RdS.type_letters p.1
      rw [h] at this
      have := this b hb
      omega
    · have := List.mem_singleton.1 hb; subst this; decide
  · rw [RdS.escS_escL] at hb
    exact RdS.escL_print p.2 true b hb

set_option maxRecDepth 100000 in
set_option maxHeartbeats 8000000 in
theorem rdnescapes_c (s : ByteArray) (hs : s.size ≤ 9223372036854775807) (w : World) (hE : Env w) : Calls Tryz.prog 12 #[.string s] w (True_ w) := by
  obtain ⟨⟨l⟩⟩ := s
  have hs : l.length ≤ 9223372036854775807 := hs
  by_cases hl : 300 < l.length
  · have hz : (300 : Int) < (l.length : Int) := by omega
    go_enter Tryz.func12, Tryz.ntmps12
    go_wp2_with fail
    refine (awake05_c _ hE).mono ?_; rintro e w1 ⟨rfl, hb1⟩
    go_wp2_with fail
    refine (awake05_c _ (hE.below hb1)).mono ?_; rintro e w2 ⟨rfl, hb2⟩
    go_wp2_with fail
    go_ret
    exact ⟨rfl, below_trans hb1 hb2⟩
  have hz : decide ((300 : Int) < (l.length : Int)) = false := decide_eq_false (by omega)
  have hfit : PairsFit [([99, 110], l)] := fun p hp => by
    have := List.mem_singleton.1 hp; subst this
    exact ⟨by show 2 ≤ _; decide, by show l.length ≤ _; omega⟩
  go_enter Tryz.func12, Tryz.ntmps12
  go_wp2_with fail
  refine (awake05_c _ hE).mono ?_; rintro e w1 ⟨rfl, hb1⟩
  have hE1 := hE.below hb1
  have hwh := Whole.made w1 53 #[.string ⟨#[99, 110]⟩, .string ⟨l.toArray⟩]
  have hbl := grow1 w1 (.cells #[.string ⟨#[99, 110]⟩, .string ⟨l.toArray⟩] 53)
  go_wp2_with fail
  generalize hw2 : (w1.alloc (.cells #[.string ⟨#[99, 110]⟩, .string ⟨l.toArray⟩] 53)) = w2 at *
  clear hw2
  have hE2 := hE1.below hbl
  have hav : AvasIn w2 (.slice (some ⟨w1.heap.size, 0, none⟩) 1 1) [([99, 110], l)] := by
    refine ⟨_, 1, rfl, Nat.le_refl _, .inr ⟨w1.heap.size, 0, rfl, hwh.lt, fun j p hj => ?_⟩⟩
    have hj0 : j = 0 := by
      rcases Nat.eq_zero_or_pos j with h | h
      · exact h
      · rw [List.getElem?_eq_none (by simp; omega)] at hj; cases hj
    subst hj0
    have := Option.some.inj hj
    subst this
    exact ⟨hwh.cell 0, hwh.cell 1⟩
  have hprint := rdprint_c _ _ _ hav hfit hE2
  unfold PrintRet at hprint
  cases hfd : RdS.formedS [([99, 110], l)] with
  | false =>
    have hpr : RdS.printS [([99, 110], l)] = ([], 1) := by unfold RdS.printS; rw [hfd]; rfl
    rw [hpr] at hprint
    clear hpr
    go_wp2_with fail
    refine hprint.mono ?_; rintro e w3 ⟨rfl, hb3⟩
    have hfm := formed_any _ _ _ (hav.call hb3 (Nat.le_refl _)) hfit (hE2.below hb3)
    unfold FmRet at hfm
    rw [hfd] at hfm
    go_wp2_with fail
    refine hfm.mono ?_; rintro e w4 ⟨rfl, hb4⟩
    go_wp2_with fail
    go_ret
    exact ⟨rfl, below_trans (below_trans (below_trans hb1 hbl) hb3) hb4⟩
  | true =>
    have hpr : RdS.printS [([99, 110], l)] = (RdS.textTo [([99, 110], l)] 1, 0) := by unfold RdS.printS; rw [if_pos hfd]; rfl
    have htl := RdS.text_small hfd 1 (Nat.le_refl _)
    have hbk := RdS.part_back hfd
    have hbk : RdS.partS (RdS.textTo [([99, 110], l)] 1) = ([([99, 110], l)], 0) := hbk
    have hcn : (RuS.typeOf ([99, 110] : List UInt8)).1 = [99, 110] := by decide +kernel
    have hns44 : RdS.splitE 44 (RdS.textTo [([99, 110], l)] 1) = [RdS.textTo [([99, 110], l)] 1] := by
      rw [text_one]; exact (RdS.pairT_noSep (sep := 44) (by decide) (by decide) (by decide) hcn).split
    have hns43 : RdS.splitE 43 (RdS.textTo [([99, 110], l)] 1) = [RdS.textTo [([99, 110], l)] 1] := by
      rw [text_one]; exact (RdS.pairT_noSep (sep := 43) (by decide) (by decide) (by decide) hcn).split
    have hpp := pair_print (p := ([99, 110], l)) hcn
    rw [← text_one] at hpp
    rw [hpr] at hprint
    clear hpr hfit hcn
    generalize RdS.textTo [([99, 110], l)] 1 = tx at *
    have hparse := fun w hE => rdparse_c tx (by omega) w hE
    have hs44 := fun w => rdsplit_c tx 44 (by omega) (by decide) w
    have hs43 := fun w => rdsplit_c tx 43 (by omega) (by decide) w
    unfold PartRet at hparse
    unfold SplitRet at hs44 hs43
    rw [hbk] at hparse
    rw [hns44, show ((44 : UInt8).toNat : Int) = 44 from rfl] at hs44
    rw [hns43, show ((43 : UInt8).toNat : Int) = 43 from rfl] at hs43
    have HPP := Lib.hid hpp
    clear hbk hns44 hns43 hpp hfd
    go_wp2_with fail
    refine hprint.mono ?_; rintro e w3 ⟨rfl, hb3⟩
    have hE3 := hE2.below hb3
    have hw3 := hwh.call hb3
    have hbt3 := below_trans (below_trans hb1 hbl) hb3
    clear hprint hav
    go_wp2_with fail
    go_loop [32] (fun i => ∃ k : Nat, k ≤ tx.length ∧ i = .int .i64 k) (fun i => tx.length - (intOf i).toNat)
    case atStart => exact ⟨0, Nat.zero_le _, rfl⟩
    case round =>
      obtain ⟨k, hk, rfl⟩ := hrel
      by_cases hlt : k < tx.length
      · have hc := HPP.out tx[k] (List.getElem_mem hlt)
        generalize hcq : tx[k] = c at *
        have hq2 : ∀ h, (⟨tx.toArray⟩ : ByteArray)[k]'h = c := fun _ => hcq
        have g1 : decide ((c.toNat : Int) < 32) = false := decide_eq_false (by omega)
        have g2 : decide ((126 : Int) < (c.toNat : Int)) = false := decide_eq_false (by omega)
        clear hcq hc
        go_wp2_with fail
        go_round
        case rel => exact ⟨k + 1, hlt, by go_num⟩
        case measure => simp [intOf]; omega
      · have hkl : k = tx.length := by omega
        subst hkl
        go_wp2_with fail
        refine (hparse _ hE3).mono ?_; rintro e w4 ⟨v4, rfl, hv4, hb4⟩
        have hw4 := hw3.call hb4
        obtain ⟨a, c, rfl, hc, hcase⟩ := hv4
        rcases hcase with h | ⟨g, o, rfl, hg, hcell⟩
        · cases h
        obtain ⟨m0, m1⟩ := hcell 0 _ rfl
        simp only [Nat.zero_mul, Nat.add_zero, strV] at m0 m1
        have l0 : w4.cell? ⟨w1.heap.size, 0, none⟩ = some (.string ⟨#[99, 110]⟩) := hw4.cell 0
        have l1 : w4.cell? ⟨w1.heap.size, 1, none⟩ = some (.string ⟨l.toArray⟩) := hw4.cell 1
        have hgd : ∀ x y w, (eqGuard .eql 53 x y (.agg #[.string ⟨#[99, 110]⟩, .string ⟨l.toArray⟩]) (.agg #[.string ⟨#[99, 110]⟩, .string ⟨l.toArray⟩])).run Tryz.prog w = .ok () w := fun x y w => run_eqGuard_agg w .eql _ x y _ _ (by kernel_rfl)
        have heq : ∀ w, (binOp .eql 53 (.agg #[.string ⟨#[99, 110]⟩, .string ⟨l.toArray⟩]) (.agg #[.string ⟨#[99, 110]⟩, .string ⟨l.toArray⟩])).run Tryz.prog w = .ok (.bool true) w := fun w => by
          have h := equal_pair 53 (by kernel_rfl) (by kernel_rfl) (by kernel_rfl) [99, 110] l [99, 110] l w
          rw [run_eql_struct, h]
          simp [Result.andThen]
        have hbt4 := below_trans hbt3 hb4
        clear hcell hw4 hw3 hwh hparse
        go_wp2_with fail
        go_region_held3 (fun W => W.cell? ⟨g, o, none⟩ = some (.string ⟨#[99, 110]⟩) ∧ W.cell? ⟨g, o + 1, none⟩ = some (.string ⟨l.toArray⟩) ∧ W.cell? ⟨w1.heap.size, 0, none⟩ = some (.string ⟨#[99, 110]⟩) ∧ W.cell? ⟨w1.heap.size, 1, none⟩ = some (.string ⟨l.toArray⟩)) (first | exact ⟨m0, m1, l0, l1⟩ | exact ⟨keepC (w := w4.drew) m0 hb5, keepC (w := w4.drew) m1 hb5, keepC (w := w4.drew) l0 hb5, keepC (w := w4.drew) l1 hb5⟩ | exact ⟨keepC (keepC (w := w4.drew) m0 hb5) hb6, keepC (keepC (w := w4.drew) m1 hb5) hb6, keepC (keepC (w := w4.drew) l0 hb5) hb6, keepC (keepC (w := w4.drew) l1 hb5) hb6⟩)
          (first
            | (go_at_call 44; (with_reducible refine (hs44 _).mono ?_); rintro e w5 ⟨v5, rfl, ⟨a5, c5, rfl, hc5, _⟩, hb5⟩)
            | (go_at_call 44; (with_reducible refine (hs43 _).mono ?_); rintro e w6 ⟨v6, rfl, ⟨a6, c6, rfl, hc6, _⟩, hb6⟩))
        all_goals go_wp2_with fail
        all_goals go_ret
        all_goals exact ⟨rfl, below_trans (below_trans hbt4.drew hb5) hb6⟩
end Go.Proofs.YtjjbkldlgjllnaaGreatDoor
