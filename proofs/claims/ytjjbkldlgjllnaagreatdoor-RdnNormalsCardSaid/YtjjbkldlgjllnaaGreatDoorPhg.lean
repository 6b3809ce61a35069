/- The walk of the library's LastIndexAny at the two signs: where the last of them stands in any text, whatever its bytes. Condition: a text's length is a machine's. -/
import Derived.Test.YtjjbkldlgjllnaaGreatDoorEnv
import Derived.LoopN
import Derived.Lib.TrimUEq
import Derived.Lib.AsciiSet
import Derived.Lib.SpaceUEq
namespace Go.Proofs.YtjjbkldlgjllnaaGreatDoor
open Go.RowKit

theorem quiet_add {P : Program} {f : FuncId} {args : Array Value} {w : World} {a n : Nat} {v : Value}
    (h : Calls P f args (w.drewN (a + n)) fun e w' => e = .returned v ∧ w' = w.drewN (a + n)) :
    Calls P f args (w.drewN (a + n)) fun e w'' => e = .returned v ∧ ∃ m, w'' = w.drewN (a + m) :=
  h.mono fun _ _ ⟨he, hm⟩ => ⟨he, n, hm⟩

set_option maxRecDepth 100000 in
theorem indexRune_err (w : World) :
    Calls Tryz.prog 152 #[.string ⟨#[43, 45]⟩, .int .i32 65533] w fun e w' => e = .returned (.int .i64 (-1)) ∧ Below w.heap.size w w' := by
  have n0 := run_next_ascii (P := Tryz.prog) w ⟨#[43, 45]⟩ 0 0 (by decide) (by decide)
  have n1 := run_next_ascii (P := Tryz.prog) w ⟨#[43, 45]⟩ 1 0 (by decide) (by decide)
  have n2 := run_next_end (P := Tryz.prog) w ⟨#[43, 45]⟩ 2 0 (by decide)
  go_enter Tryz.func152, Tryz.ntmps152
  go_wp2_with fail
  refine wp_loop_rounds 4 ?_
  repeat any_goals (rw [rounds_succ]; go_wp2_with fail)
  go_ret
  exact ⟨rfl, (Below.refl _ _).alloc (Nat.le_refl _) _⟩

set_option maxRecDepth 100000 in
theorem indexRune_two (r : Int) (c0 c1 : UInt8) (h1 : 128 ≤ r) (h2 : r ≤ 2047) (hen : Utf8.encode r = ⟨#[c0, c1]⟩) (hc : 128 ≤ c1.toNat) (w : World) :
    Calls Tryz.prog 152 #[.string ⟨#[43, 45]⟩, .int .i32 r] w fun e w' => e = .returned (.int .i64 (-1)) ∧ Below w.heap.size w w' := by
  have h3 : (r == 65533) = false := by simp; omega
  have hv : Lib.validRune r = true := decide_eq_true (by omega)
  have hne : ((((⟨#[43, 45]⟩ : ByteArray)[1]'(by decide)).toNat : Int) != (((⟨#[c0, c1]⟩ : ByteArray)[1]'(by exact Nat.lt_succ_self 1)).toNat : Int)) = true := by
    have : ((45 : Int) != (c1.toNat : Int)) = true := by rw [bne_iff_ne]; omega
    exact this
  go_enter Tryz.func152, Tryz.ntmps152
  go_wp2_with fail
  refine (Tryz.utf8_ValidRune r _).mono ?_
  rintro e w1 ⟨rfl, rfl⟩
  go_wp2_with fail
  go_step3
  go_wp2_with fail
  refine wp_loop_rounds 1 ?_
  rw [rounds_succ]
  go_wp2_with fail
  go_step3
  go_wp2_with fail
  go_quiet (fail)
  go_wp2_with fail
  go_quiet ((go_at_call 112; exact quiet_add (Tryz.strings_IndexByte _ _ _)))
  have hib : ∀ c, Lib.indexByte [] c = -1 := fun _ => rfl
  go_wp2_with fail
  simp only [Exit.noGoto_ret, Exit.inBlock, Exit.then]
  go_ret
  exact ⟨rfl, below_drewN _ _⟩
set_option maxRecDepth 100000 in
theorem indexRune_three (r : Int) (c0 c1 c2 : UInt8) (h1 : 128 ≤ r) (h3 : (r == 65533) = false) (hv : Lib.validRune r = true) (hen : Utf8.encode r = ⟨#[c0, c1, c2]⟩) (w : World) :
    Calls Tryz.prog 152 #[.string ⟨#[43, 45]⟩, .int .i32 r] w fun e w' => e = .returned (.int .i64 (-1)) ∧ Below w.heap.size w w' := by
  go_enter Tryz.func152, Tryz.ntmps152
  go_wp2_with fail
  refine (Tryz.utf8_ValidRune r _).mono ?_
  rintro e w1 ⟨rfl, rfl⟩
  go_wp2_with fail
  go_step3
  go_wp2_with fail
  refine wp_loop_rounds 1 ?_
  rw [rounds_succ]
  go_wp2_with fail
  rw [Exit.noGoto_ret]
  go_ret
  exact ⟨rfl, Below.refl _ _⟩
set_option maxRecDepth 100000 in
theorem indexRune_four (r : Int) (c0 c1 c2 c3 : UInt8) (h1 : 128 ≤ r) (h3 : (r == 65533) = false) (hv : Lib.validRune r = true) (hen : Utf8.encode r = ⟨#[c0, c1, c2, c3]⟩) (w : World) :
    Calls Tryz.prog 152 #[.string ⟨#[43, 45]⟩, .int .i32 r] w fun e w' => e = .returned (.int .i64 (-1)) ∧ Below w.heap.size w w' := by
  go_enter Tryz.func152, Tryz.ntmps152
  go_wp2_with fail
  refine (Tryz.utf8_ValidRune r _).mono ?_
  rintro e w1 ⟨rfl, rfl⟩
  go_wp2_with fail
  go_step3
  go_wp2_with fail
  refine wp_loop_rounds 1 ?_
  rw [rounds_succ]
  go_wp2_with fail
  rw [Exit.noGoto_ret]
  go_ret
  exact ⟨rfl, Below.refl _ _⟩
set_option maxRecDepth 100000 in
theorem indexRune_bad (r : Int) (h1 : 128 ≤ r) (h3 : (r == 65533) = false) (hv : Lib.validRune r = false) (w : World) :
    Calls Tryz.prog 152 #[.string ⟨#[43, 45]⟩, .int .i32 r] w fun e w' => e = .returned (.int .i64 (-1)) ∧ Below w.heap.size w w' := by
  go_enter Tryz.func152, Tryz.ntmps152
  go_wp2_with fail
  refine (Tryz.utf8_ValidRune r _).mono ?_
  rintro e w1 ⟨rfl, rfl⟩
  go_wp2_with fail
  go_ret
  exact ⟨rfl, Below.refl _ _⟩

theorem encode_two {r : Int} (h1 : 128 ≤ r) (h2 : r ≤ 2047) : ∃ c0 c1, Utf8.encode r = ⟨#[c0, c1]⟩ ∧ 128 ≤ c1.toNat := by
  have hv : Utf8.valid r = true := by unfold Utf8.valid; simp; omega
  refine ⟨UInt8.ofNat (0xC0 + r.toNat / 64), UInt8.ofNat (0x80 + r.toNat % 64), ?_, ?_⟩
  · unfold Utf8.encode
    simp only [hv, if_true]
    rw [if_neg (by omega), if_pos (by omega)]
  · rw [UInt8.toNat_ofNat']; omega
theorem encode_three {r : Int} (h1 : 2048 ≤ r) (h2 : r ≤ 65535) (hv : Lib.validRune r = true) : ∃ c0 c1 c2, Utf8.encode r = ⟨#[c0, c1, c2]⟩ := by
  have hv' := of_decide_eq_true hv
  have hv : Utf8.valid r = true := by unfold Utf8.valid; simp; omega
  unfold Utf8.encode
  simp only [hv, if_true]
  rw [if_neg (by omega), if_neg (by omega), if_pos (by omega)]
  exact ⟨_, _, _, rfl⟩
theorem encode_four {r : Int} (h1 : 65536 ≤ r) (hv : Lib.validRune r = true) : ∃ c0 c1 c2 c3, Utf8.encode r = ⟨#[c0, c1, c2, c3]⟩ := by
  have hv' := of_decide_eq_true hv
  have hv : Utf8.valid r = true := by unfold Utf8.valid; simp; omega
  unfold Utf8.encode
  simp only [hv, if_true]
  rw [if_neg (by omega), if_neg (by omega), if_neg (by omega)]
  exact ⟨_, _, _, _, rfl⟩

theorem indexRune_high (r : Int) (h1 : 128 ≤ r) (w : World) :
    Calls Tryz.prog 152 #[.string ⟨#[43, 45]⟩, .int .i32 r] w fun e w' => e = .returned (.int .i64 (-1)) ∧ Below w.heap.size w w' := by
  by_cases he : r = 65533
  · subst he; exact indexRune_err w
  have h3 : (r == 65533) = false := beq_eq_false_iff_ne.2 he
  cases hv : Lib.validRune r with
  | false => exact indexRune_bad r h1 h3 hv w
  | true =>
    by_cases h2 : r ≤ 2047
    · obtain ⟨c0, c1, hen, hc⟩ := encode_two h1 h2
      exact indexRune_two r c0 c1 h1 h2 hen hc w
    · by_cases h4 : r ≤ 65535
      · obtain ⟨c0, c1, c2, hen⟩ := encode_three (by omega) h4 hv
        exact indexRune_three r c0 c1 c2 h1 h3 hv hen w
      · obtain ⟨c0, c1, c2, c3, hen⟩ := encode_four (by omega) hv
        exact indexRune_four r c0 c1 c2 c3 h1 h3 hv hen w
/-- at a byte of a text -/
theorem indexRune_byte (c : UInt8) (w : World) :
    Calls Tryz.prog 152 #[.string ⟨#[43, 45]⟩, .int .i32 (if c.toNat < 128 then c.toNat else 65533)] w fun e w' => (∃ n : Int, e = .returned (.int .i64 n) ∧ (PhS.isSign c = true → 0 ≤ n) ∧ (PhS.isSign c = false → n < 0)) ∧ Below w.heap.size w w' := by
  by_cases hc : c.toNat < 128
  · rw [if_pos hc]
    refine (Tryz.strings_IndexRune_ascii ⟨#[43, 45]⟩ c.toNat w (by omega) (by omega)).mono ?_
    rintro e w' ⟨rfl, rfl⟩
    refine ⟨⟨_, rfl, ?_, ?_⟩, Below.refl _ _⟩
    · intro h
      unfold PhS.isSign at h
      simp only [Int.toNat_natCast]
      rw [Bool.or_eq_true, beq_iff_eq, beq_iff_eq] at h
      rcases h with rfl | rfl
      · decide
      · decide
    · intro h
      unfold PhS.isSign at h
      rw [Bool.or_eq_false_iff, beq_eq_false_iff_ne, beq_eq_false_iff_ne] at h
      simp only [Int.toNat_natCast]
      have e : c.toNat.toUInt8 = c := by simp
      have e1 : ((43 : UInt8) == c) = false := beq_eq_false_iff_ne.2 (fun h' => h.1 h'.symm)
      have e2 : ((45 : UInt8) == c) = false := beq_eq_false_iff_ne.2 (fun h' => h.2 h'.symm)
      rw [e]
      simp [Lib.indexByte, e1, e2]
  · rw [if_neg hc]
    refine (indexRune_err w).mono ?_
    rintro e w' ⟨rfl, hb⟩
    refine ⟨⟨_, rfl, ?_, fun _ => by decide⟩, hb⟩
    intro h
    exfalso
    unfold PhS.isSign at h
    rw [Bool.or_eq_true, beq_iff_eq, beq_iff_eq] at h
    rcases h with rfl | rfl
    · exact hc (by decide)
    · exact hc (by decide)

theorem high_decode (n b0 b1 b2 b3 : Nat) (h : 128 ≤ b0) : 128 ≤ (Lib.decodeN n b0 b1 b2 b3).1 ∧
    ((Lib.decodeN n b0 b1 b2 b3).2 = 1 ∨ ((Lib.decodeN n b0 b1 b2 b3).2 = 2 ∧ 128 ≤ b1) ∨ ((Lib.decodeN n b0 b1 b2 b3).2 = 3 ∧ 128 ≤ b1 ∧ 128 ≤ b2) ∨ ((Lib.decodeN n b0 b1 b2 b3).2 = 4 ∧ 128 ≤ b1 ∧ 128 ≤ b2 ∧ 128 ≤ b3)) := by
  unfold Lib.decodeN
  repeat' split
  all_goals first | (exfalso; omega) | skip
  all_goals
    refine ⟨by show 128 ≤ _; first | omega | decide, ?_⟩
    first
      | (left; rfl)
      | (right; left; exact ⟨rfl, by omega⟩)
      | (right; right; left; exact ⟨rfl, by omega, by omega⟩)
      | (right; right; right; exact ⟨rfl, by omega, by omega, by omega⟩)

/-- all bytes of a text are above ASCII -/
def High (l : List UInt8) : Prop := ∀ c ∈ l, 128 ≤ c.toNat
theorem high_of_getD {l : List UInt8} (h : ∀ j, j < l.length → 128 ≤ (l.getD j 0).toNat) : High l := by
  intro c hc
  obtain ⟨j, hj, rfl⟩ := List.getElem_of_mem hc
  have := h j hj
  rwa [List.getD_eq_getElem?_getD, List.getElem?_eq_getElem hj, Option.getD_some] at this
theorem sign_high {c : UInt8} (h : 128 ≤ c.toNat) : PhS.isSign c = false := by
  unfold PhS.isSign
  rw [Bool.or_eq_false_iff, beq_eq_false_iff_ne, beq_eq_false_iff_ne]
  exact ⟨fun e => by subst e; revert h; decide, fun e => by subst e; revert h; decide⟩

/-- the last rune of a text: an ASCII byte, or bytes above ASCII -/
theorem last_rune (l : List UInt8) (h : l ≠ []) :
    (∃ c, l.getLast? = some c ∧ c.toNat < 128 ∧ Lib.decodeLastL l = (c.toNat, 1)) ∨
    (128 ≤ (Lib.decodeLastL l).1 ∧ 1 ≤ (Lib.decodeLastL l).2 ∧ (Lib.decodeLastL l).2 ≤ l.length ∧ High (l.drop (l.length - (Lib.decodeLastL l).2))) := by
  have hl : 0 < l.length := List.length_pos_iff.2 h
  have hg : l.getLast? = some (l.getD (l.length - 1) 0) := by
    rw [List.getLast?_eq_getElem?, List.getElem?_eq_getElem (by omega), List.getD_eq_getElem?_getD, List.getElem?_eq_getElem (by omega)]; rfl
  by_cases hc : (l.getD (l.length - 1) 0).toNat < 128
  · left
    refine ⟨_, hg, hc, ?_⟩
    unfold Lib.decodeLastL
    rw [if_neg h, if_pos hc]
  · right
    have hw := Lib.decodeLastL_width l hl
    refine ⟨?_, hw.1, hw.2, ?_⟩
    all_goals
      unfold Lib.decodeLastL
      rw [if_neg h, if_neg hc]
      simp only
      have hs := Lib.lastStart_lt' l h
      generalize hq : l.drop (Lib.lastStart l) = t
      have htl : t.length = l.length - Lib.lastStart l := by rw [← hq, List.length_drop]
      have hlast : t.getD (t.length - 1) 0 = l.getD (l.length - 1) 0 := by
        rw [← hq, Lib.getD_dropU]; congr 1; rw [List.length_drop]; omega
      rw [Lib.decodeL_N]
      split
    · rename_i hfull
      by_cases h0 : 128 ≤ (t.getD 0 0).toNat
      · exact (high_decode _ _ _ _ _ h0).1
      · exfalso
        rw [Lib.decodeN_ascii _ _ _ _ _ (by omega)] at hfull
        have : t.length = 1 := by simp only at hfull; omega
        rw [this] at hlast
        rw [hlast] at h0
        omega
    · show 128 ≤ Utf8.runeError
      decide
    · rename_i hfull
      by_cases h0 : 128 ≤ (t.getD 0 0).toNat
      · have hd := (high_decode t.length _ (t.getD 1 0).toNat (t.getD 2 0).toNat (t.getD 3 0).toNat h0).2
        have e : l.length - (Lib.decodeN t.length (t.getD 0 0).toNat (t.getD 1 0).toNat (t.getD 2 0).toNat (t.getD 3 0).toNat).2 = Lib.lastStart l := by omega
        rw [e, hq]
        refine high_of_getD fun j hj => ?_
        have hj' : j < (Lib.decodeN t.length (t.getD 0 0).toNat (t.getD 1 0).toNat (t.getD 2 0).toNat (t.getD 3 0).toNat).2 := by omega
        rcases hd with hd | ⟨hd, d1⟩ | ⟨hd, d1, d2⟩ | ⟨hd, d1, d2, d3⟩
        · obtain rfl : j = 0 := by omega
          exact h0
        · obtain rfl | rfl : j = 0 ∨ j = 1 := by omega
          · exact h0
          · exact d1
        · obtain rfl | rfl | rfl : j = 0 ∨ j = 1 ∨ j = 2 := by omega
          · exact h0
          · exact d1
          · exact d2
        · obtain rfl | rfl | rfl | rfl : j = 0 ∨ j = 1 ∨ j = 2 ∨ j = 3 := by omega
          · exact h0
          · exact d1
          · exact d2
          · exact d3
      · exfalso
        rw [Lib.decodeN_ascii _ _ _ _ _ (by omega)] at hfull
        have : t.length = 1 := by simp only at hfull; omega
        rw [this] at hlast
        rw [hlast] at h0
        omega
    · rw [Lib.drop_last1 l hl]
      intro c hcc
      have : c = l.getD (l.length - 1) 0 := by simpa using hcc
      subst this
      omega

/-- a step back over the last rune -/
theorem lastW_step (l : List UInt8) (h : l ≠ []) : 1 ≤ (Lib.decodeLastL l).2 ∧ (Lib.decodeLastL l).2 ≤ l.length ∧
    ((∃ c : UInt8, Lib.decodeLastL l = (c.toNat, 1) ∧ c.toNat < 128 ∧ PhS.lastW PhS.isSign l = if PhS.isSign c then ((l.length - 1 : Nat) : Int) else PhS.lastW PhS.isSign (l.take (l.length - 1))) ∨
     (128 ≤ (Lib.decodeLastL l).1 ∧ PhS.lastW PhS.isSign l = PhS.lastW PhS.isSign (l.take (l.length - (Lib.decodeLastL l).2)))) := by
  rcases last_rune l h with ⟨c, hg, hc, hd⟩ | ⟨h1, h2, h3, h4⟩
  · have hl : 0 < l.length := List.length_pos_iff.2 h
    refine ⟨by rw [hd]; exact Nat.le_refl _, by rw [hd]; exact hl, .inl ⟨c, hd, hc, ?_⟩⟩
    obtain ⟨ys, rfl⟩ := List.getLast?_eq_some_iff.1 hg
    rw [PhS.lastW_snoc]
    simp
  · refine ⟨h2, h3, .inr ⟨h1, ?_⟩⟩
    conv => lhs; rw [← List.take_append_drop (l.length - (Lib.decodeLastL l).2) l]
    exact PhS.lastW_append_none _ _ _ fun c hc => sign_high (h4 c hc)
end Go.Proofs.YtjjbkldlgjllnaaGreatDoor
