/- The walk of the library's LastIndexAny at the two signs: where the last of them stands in any text, whatever its bytes. Condition: a text's length is a machine's. The walk of the library's LastIndexAny at the two signs: where the last of them stands in any text, whatever its bytes. Condition: a text's length is a machine's. -/
import Derived.Test.YtifjghkgmfmneaaGreatDoorMem
import Derived.LoopN
import Derived.Lib.TrimUEq
import Derived.Lib.AsciiSet
import Derived.Lib.SpaceUEq
import Derived.Deep.WholeRow
namespace Go.Proofs.YtifjghkgmfmneaaGreatDoor
open Go.RowKit

theorem quiet_add {P : Program} {f : FuncId} {args : Array Value} {w : World} {a n : Nat} {v : Value}
    (h : Calls P f args (w.drewN (a + n)) fun e w' => e = .returned v ∧ w' = w.drewN (a + n)) :
    Calls P f args (w.drewN (a + n)) fun e w'' => e = .returned v ∧ ∃ m, w'' = w.drewN (a + m) :=
  h.mono fun _ _ ⟨he, hm⟩ => ⟨he, n, hm⟩

set_option maxRecDepth 100000 in
theorem indexRune_err (w : World) :
    Calls Tryz.prog 297 #[.string ⟨#[43, 45]⟩, .int .i32 65533] w fun e w' => e = .returned (.int .i64 (-1)) ∧ Below w.heap.size w w' := by
  have n0 := run_next_ascii (P := Tryz.prog) w ⟨#[43, 45]⟩ 0 0 (by decide) (by decide)
  have n1 := run_next_ascii (P := Tryz.prog) w ⟨#[43, 45]⟩ 1 0 (by decide) (by decide)
  have n2 := run_next_end (P := Tryz.prog) w ⟨#[43, 45]⟩ 2 0 (by decide)
  go_enter Tryz.func297, Tryz.ntmps297
  go_wp2_with fail
  refine wp_loop_rounds 4 ?_
  repeat any_goals (rw [rounds_succ]; go_wp2_with fail)
  go_ret
  exact ⟨rfl, (Below.refl _ _).alloc (Nat.le_refl _) _⟩

set_option maxRecDepth 100000 in
theorem indexRune_two (r : Int) (c0 c1 : UInt8) (h1 : 128 ≤ r) (h2 : r ≤ 2047) (hen : Utf8.encode r = ⟨#[c0, c1]⟩) (hc : 128 ≤ c1.toNat) (w : World) :
    Calls Tryz.prog 297 #[.string ⟨#[43, 45]⟩, .int .i32 r] w fun e w' => e = .returned (.int .i64 (-1)) ∧ Below w.heap.size w w' := by
  have h3 : (r == 65533) = false := by simp; omega
  have hv : Lib.validRune r = true := decide_eq_true (by omega)
  have hne : ((((⟨#[43, 45]⟩ : ByteArray)[1]'(by decide)).toNat : Int) != (((⟨#[c0, c1]⟩ : ByteArray)[1]'(by exact Nat.lt_succ_self 1)).toNat : Int)) = true := by
    have : ((45 : Int) != (c1.toNat : Int)) = true := by rw [bne_iff_ne]; omega
    exact this
  go_enter Tryz.func297, Tryz.ntmps297
  go_wp2_with fail
  refine (Tryz.utf8_ValidRune r _).mono ?_
  rintro e w1 ⟨rfl, rfl⟩
  go_wp2_with fail
  go_step3
  go_wp2_with fail
  refine wp_loop_rounds 1 ?_
  rw [rounds_succ]
  go_wp2_with fail
  go_step3
  go_wp2_with fail
  go_quiet (fail)
  go_wp2_with fail
  go_quiet ((go_at_call 191; exact quiet_add (Tryz.strings_IndexByte _ _ _)))
  have hib : ∀ c, Lib.indexByte [] c = -1 := fun _ => rfl
  go_wp2_with fail
  simp only [Exit.noGoto_ret, Exit.inBlock, Exit.then]
  go_ret
  exact ⟨rfl, below_drewN _ _⟩
set_option maxRecDepth 100000 in
theorem indexRune_three (r : Int) (c0 c1 c2 : UInt8) (h1 : 128 ≤ r) (h3 : (r == 65533) = false) (hv : Lib.validRune r = true) (hen : Utf8.encode r = ⟨#[c0, c1, c2]⟩) (w : World) :
    Calls Tryz.prog 297 #[.string ⟨#[43, 45]⟩, .int .i32 r] w fun e w' => e = .returned (.int .i64 (-1)) ∧ Below w.heap.size w w' := by
  go_enter Tryz.func297, Tryz.ntmps297
  go_wp2_with fail
  refine (Tryz.utf8_ValidRune r _).mono ?_
  rintro e w1 ⟨rfl, rfl⟩
  go_wp2_with fail
  go_step3
  go_wp2_with fail
  refine wp_loop_rounds 1 ?_
  rw [rounds_succ]
  go_wp2_with fail
  rw [Exit.noGoto_ret]
  go_ret
  exact ⟨rfl, Below.refl _ _⟩
set_option maxRecDepth 100000 in
theorem indexRune_four (r : Int) (c0 c1 c2 c3 : UInt8) (h1 : 128 ≤ r) (h3 : (r == 65533) = false) (hv : Lib.validRune r = true) (hen : Utf8.encode r = ⟨#[c0, c1, c2, c3]⟩) (w : World) :
    Calls Tryz.prog 297 #[.string ⟨#[43, 45]⟩, .int .i32 r] w fun e w' => e = .returned (.int .i64 (-1)) ∧ Below w.heap.size w w' := by
  go_enter Tryz.func297, Tryz.ntmps297
  go_wp2_with fail
  refine (Tryz.utf8_ValidRune r _).mono ?_
  rintro e w1 ⟨rfl, rfl⟩
  go_wp2_with fail
  go_step3
  go_wp2_with fail
  refine wp_loop_rounds 1 ?_
  rw [rounds_succ]
  go_wp2_with fail
  rw [Exit.noGoto_ret]
  go_ret
  exact ⟨rfl, Below.refl _ _⟩
set_option maxRecDepth 100000 in
theorem indexRune_bad (r : Int) (h1 : 128 ≤ r) (h3 : (r == 65533) = false) (hv : Lib.validRune r = false) (w : World) :
    Calls Tryz.prog 297 #[.string ⟨#[43, 45]⟩, .int .i32 r] w fun e w' => e = .returned (.int .i64 (-1)) ∧ Below w.heap.size w w' := by
  go_enter Tryz.func297, Tryz.ntmps297
  go_wp2_with fail
  refine (Tryz.utf8_ValidRune r _).mono ?_
  rintro e w1 ⟨rfl, rfl⟩
  go_wp2_with fail
  go_ret
  exact ⟨rfl, Below.refl _ _⟩

theorem encode_two {r : Int} (h1 : 128 ≤ r) (h2 : r ≤ 2047) : ∃ c0 c1, Utf8.encode r = ⟨#[c0, c1]⟩ ∧ 128 ≤ c1.toNat := by
  have hv : Utf8.valid r = true := by unfold Utf8.valid; simp; omega
  refine ⟨UInt8.ofNat (0xC0 + r.toNat / 64), UInt8.ofNat (0x80 + r.toNat % 64), ?_, ?_⟩
  · unfold Utf8.encode
    simp only [hv, if_true]
    rw [if_neg (by omega), if_pos (by omega)]
  · rw [UInt8.toNat_ofNat']; omega
theorem encode_three {r : Int} (h1 : 2048 ≤ r) (h2 : r ≤ 65535) (hv : Lib.validRune r = true) : ∃ c0 c1 c2, Utf8.encode r = ⟨#[c0, c1, c2]⟩ := by
  have hv' := of_decide_eq_true hv
  have hv : Utf8.valid r = true := by unfold Utf8.valid; simp; omega
  unfold Utf8.encode
  simp only [hv, if_true]
  rw [if_neg (by omega), if_neg (by omega), if_pos (by omega)]
  exact ⟨_, _, _, rfl⟩
theorem encode_four {r : Int} (h1 : 65536 ≤ r) (hv : Lib.validRune r = true) : ∃ c0 c1 c2 c3, Utf8.encode r = ⟨#[c0, c1, c2, c3]⟩ := by
  have hv' := of_decide_eq_true hv
  have hv : Utf8.valid r = true := by unfold Utf8.valid; simp; omega
  unfold Utf8.encode
  simp only [hv, if_true]
  rw [if_neg (by omega), if_neg (by omega), if_neg (by omega)]
  exact ⟨_, _, _, _, rfl⟩

theorem indexRune_high (r : Int) (h1 : 128 ≤ r) (w : World) :
    Calls Tryz.prog 297 #[.string ⟨#[43, 45]⟩, .int .i32 r] w fun e w' => e = .returned (.int .i64 (-1)) ∧ Below w.heap.size w w' := by
  by_cases he : r = 65533
  · subst he; exact indexRune_err w
  have h3 : (r == 65533) = false := beq_eq_false_iff_ne.2 he
  cases hv : Lib.validRune r with
  | false => exact indexRune_bad r h1 h3 hv w
  | true =>
    by_cases h2 : r ≤ 2047
    · obtain ⟨c0, c1, hen, hc⟩ := encode_two h1 h2
      exact indexRune_two r c0 c1 h1 h2 hen hc w
    · by_cases h4 : r ≤ 65535
      · obtain ⟨c0, c1, c2, hen⟩ := encode_three (by omega) h4 hv
        exact indexRune_three r c0 c1 c2 h1 h3 hv hen w
      · obtain ⟨c0, c1, c2, c3, hen⟩ := encode_four (by omega) hv
        exact indexRune_four r c0 c1 c2 c3 h1 h3 hv hen w
/-- at a byte of a text -/
theorem indexRune_byte (c : UInt8) (w : World) :
    Calls Tryz.prog 297 #[.string ⟨#[43, 45]⟩, .int .i32 (if c.toNat < 128 then c.toNat else 65533)] w fun e w' => (∃ n : Int, e = .returned (.int .i64 n) ∧ (PhS.isSign c = true → 0 ≤ n) ∧ (PhS.isSign c = false → n < 0)) ∧ Below w.heap.size w w' := by
  by_cases hc : c.toNat < 128
  · rw [if_pos hc]
    refine (Tryz.strings_IndexRune_ascii ⟨#[43, 45]⟩ c.toNat w (by omega) (by omega)).mono ?_
    rintro e w' ⟨rfl, rfl⟩
    refine ⟨⟨_, rfl, ?_, ?_⟩, Below.refl _ _⟩
    · intro h
      unfold PhS.isSign at h
      simp only [Int.toNat_natCast]
      rw [Bool.or_eq_true, beq_iff_eq, beq_iff_eq] at h
      rcases h with rfl | rfl
      · decide
      · decide
    · intro h
      unfold PhS.isSign at h
      rw [Bool.or_eq_false_iff, beq_eq_false_iff_ne, beq_eq_false_iff_ne] at h
      simp only [Int.toNat_natCast]
      have e : c.toNat.toUInt8 = c := by simp
      have e1 : ((43 : UInt8) == c) = false := beq_eq_false_iff_ne.2 (fun h' => h.1 h'.symm)
      have e2 : ((45 : UInt8) == c) = false := beq_eq_false_iff_ne.2 (fun h' => h.2 h'.symm)
      rw [e]
      simp [Lib.indexByte, e1, e2]
  · rw [if_neg hc]
    refine (indexRune_err w).mono ?_
    rintro e w' ⟨rfl, hb⟩
    refine ⟨⟨_, rfl, ?_, fun _ => by decide⟩, hb⟩
    intro h
    exfalso
    unfold PhS.isSign at h
    rw [Bool.or_eq_true, beq_iff_eq, beq_iff_eq] at h
    rcases h with rfl | rfl
    · exact hc (by decide)
    · exact hc (by decide)

theorem high_decode (n b0 b1 b2 b3 : Nat) (h : 128 ≤ b0) : 128 ≤ (Lib.decodeN n b0 b1 b2 b3).1 ∧
    ((Lib.decodeN n b0 b1 b2 b3).2 = 1 ∨ ((Lib.decodeN n b0 b1 b2 b3).2 = 2 ∧ 128 ≤ b1) ∨ ((Lib.decodeN n b0 b1 b2 b3).2 = 3 ∧ 128 ≤ b1 ∧ 128 ≤ b2) ∨ ((Lib.decodeN n b0 b1 b2 b3).2 = 4 ∧ 128 ≤ b1 ∧ 128 ≤ b2 ∧ 128 ≤ b3)) := by
  unfold Lib.decodeN
  repeat' split
  all_goals first | (exfalso; omega) | skip
  all_goals
    refine ⟨by show 128 ≤ _; first | omega | decide, ?_⟩
    first
      | (left; rfl)
      | (right; left; exact ⟨rfl, by omega⟩)
      | (right; right; left; exact ⟨rfl, by omega, by omega⟩)
      | (right; right; right; exact ⟨rfl, by omega, by omega, by omega⟩)

/-- all bytes of a text are above ASCII -/
def High (l : List UInt8) : Prop := ∀ c ∈ l, 128 ≤ c.toNat
theorem high_of_getD {l : List UInt8} (h : ∀ j, j < l.length → 128 ≤ (l.getD j 0).toNat) : High l := by
  intro c hc
  obtain ⟨j, hj, rfl⟩ := List.getElem_of_mem hc
  have := h j hj
  rwa [List.getD_eq_getElem?_getD, List.getElem?_eq_getElem hj, Option.getD_some] at this
theorem sign_high {c : UInt8} (h : 128 ≤ c.toNat) : PhS.isSign c = false := by
  unfold PhS.isSign
  rw [Bool.or_eq_false_iff, beq_eq_false_iff_ne, beq_eq_false_iff_ne]
  exact ⟨fun e => by subst e; revert h; decide, fun e => by subst e; revert h; decide⟩

/-- the last rune of a text: an ASCII byte, or bytes above ASCII -/
theorem last_rune (l : List UInt8) (h : l ≠ []) :
    (∃ c, l.getLast? = some c ∧ c.toNat < 128 ∧ Lib.decodeLastL l = (c.toNat, 1)) ∨
    (128 ≤ (Lib.decodeLastL l).1 ∧ 1 ≤ (Lib.decodeLastL l).2 ∧ (Lib.decodeLastL l).2 ≤ l.length ∧ High (l.drop (l.length - (Lib.decodeLastL l).2))) := by
  have hl : 0 < l.length := List.length_pos_iff.2 h
  have hg : l.getLast? = some (l.getD (l.length - 1) 0) := by
    rw [List.getLast?_eq_getElem?, List.getElem?_eq_getElem (by omega), List.getD_eq_getElem?_getD, List.getElem?_eq_getElem (by omega)]; rfl
  by_cases hc : (l.getD (l.length - 1) 0).toNat < 128
  · left
    refine ⟨_, hg, hc, ?_⟩
    unfold Lib.decodeLastL
    rw [if_neg h, if_pos hc]
  · right
    have hw := Lib.decodeLastL_width l hl
    refine ⟨?_, hw.1, hw.2, ?_⟩
    all_goals
      unfold Lib.decodeLastL
      rw [if_neg h, if_neg hc]
      simp only
      have hs := Lib.lastStart_lt' l h
      generalize hq : l.drop (Lib.lastStart l) = t
      have htl : t.length = l.length - Lib.lastStart l := by rw [← hq, List.length_drop]
      have hlast : t.getD (t.length - 1) 0 = l.getD (l.length - 1) 0 := by
        rw [← hq, Lib.getD_dropU]; congr 1; rw [List.length_drop]; omega
      rw [Lib.decodeL_N]
      split
    · rename_i hfull
      by_cases h0 : 128 ≤ (t.getD 0 0).toNat
      · exact (high_decode _ _ _ _ _ h0).1
      · exfalso
        rw [Lib.decodeN_ascii _ _ _ _ _ (by omega)] at hfull
        have : t.length = 1 := by simp only at hfull; omega
        rw [this] at hlast
        rw [hlast] at h0
        omega
    · show 128 ≤ Utf8.runeError
      decide
    · rename_i hfull
      by_cases h0 : 128 ≤ (t.getD 0 0).toNat
      · have hd := (high_decode t.length _ (t.getD 1 0).toNat (t.getD 2 0).toNat (t.getD 3 0).toNat h0).2
        have e : l.length - (Lib.decodeN t.length (t.getD 0 0).toNat (t.getD 1 0).toNat (t.getD 2 0).toNat (t.getD 3 0).toNat).2 = Lib.lastStart l := by omega
        rw [e, hq]
        refine high_of_getD fun j hj => ?_
        have hj' : j < (Lib.decodeN t.length (t.getD 0 0).toNat (t.getD 1 0).toNat (t.getD 2 0).toNat (t.getD 3 0).toNat).2 := by omega
        rcases hd with hd | ⟨hd, d1⟩ | ⟨hd, d1, d2⟩ | ⟨hd, d1, d2, d3⟩
        · obtain rfl : j = 0 := by omega
          exact h0
        · obtain rfl | rfl : j = 0 ∨ j = 1 := by omega
          · exact h0
          · exact d1
        · obtain rfl | rfl | rfl : j = 0 ∨ j = 1 ∨ j = 2 := by omega
          · exact h0
          · exact d1
          · exact d2
        · obtain rfl | rfl | rfl | rfl : j = 0 ∨ j = 1 ∨ j = 2 ∨ j = 3 := by omega
          · exact h0
          · exact d1
          · exact d2
          · exact d3
      · exfalso
        rw [Lib.decodeN_ascii _ _ _ _ _ (by omega)] at hfull
        have : t.length = 1 := by simp only at hfull; omega
        rw [this] at hlast
        rw [hlast] at h0
        omega
    · rw [Lib.drop_last1 l hl]
      intro c hcc
      have : c = l.getD (l.length - 1) 0 := by simpa using hcc
      subst this
      omega

/-- a step back over the last rune -/
theorem lastW_step (l : List UInt8) (h : l ≠ []) : 1 ≤ (Lib.decodeLastL l).2 ∧ (Lib.decodeLastL l).2 ≤ l.length ∧
    ((∃ c : UInt8, Lib.decodeLastL l = (c.toNat, 1) ∧ c.toNat < 128 ∧ PhS.lastW PhS.isSign l = if PhS.isSign c then ((l.length - 1 : Nat) : Int) else PhS.lastW PhS.isSign (l.take (l.length - 1))) ∨
     (128 ≤ (Lib.decodeLastL l).1 ∧ PhS.lastW PhS.isSign l = PhS.lastW PhS.isSign (l.take (l.length - (Lib.decodeLastL l).2)))) := by
  rcases last_rune l h with ⟨c, hg, hc, hd⟩ | ⟨h1, h2, h3, h4⟩
  · have hl : 0 < l.length := List.length_pos_iff.2 h
    refine ⟨by rw [hd]; exact Nat.le_refl _, by rw [hd]; exact hl, .inl ⟨c, hd, hc, ?_⟩⟩
    obtain ⟨ys, rfl⟩ := List.getLast?_eq_some_iff.1 hg
    rw [PhS.lastW_snoc]
    simp
  · refine ⟨h2, h3, .inr ⟨h1, ?_⟩⟩
    conv => lhs; rw [← List.take_append_drop (l.length - (Lib.decodeLastL l).2) l]
    exact PhS.lastW_append_none _ _ _ fun c hc => sign_high (h4 c hc)
end Go.Proofs.YtifjghkgmfmneaaGreatDoor
namespace Go.Proofs.YtifjghkgmfmneaaGreatDoor
open Go.RowKit

def LiaRet (s : ByteArray) (w : World) (e : Ending) (w' : World) : Prop := e = .returned (.int .i64 (PhS.lastW PhS.isSign s.data.toList)) ∧ Below w.heap.size w w'

theorem lastW_one (s : ByteArray) (h : s.size = 1) (h0 : 0 < s.size) : PhS.lastW PhS.isSign s.data.toList = if PhS.isSign s[0] then 0 else -1 := by
  have hl : s.data.toList = [s[0]] := by
    apply List.ext_getElem
    · simpa using h
    · intro i h1 h2
      have : i = 0 := by simp at h2; exact h2
      subst this
      rfl
  rw [hl]
  unfold PhS.lastW
  simp [PhS.lastW]

set_option maxRecDepth 100000 in
theorem lia_one (s : ByteArray) (h : s.size = 1) (w : World) :
    Calls Tryz.prog 261 #[.string s, .string ⟨#[43, 45]⟩] w (LiaRet s w) := by
  have h0 : 0 < s.size := by omega
  have HL := Lib.hid (lastW_one s h h0)
  have hb := indexRune_byte s[0]
  have h256 : s[0].toNat < 256 := UInt8.toNat_lt _
  by_cases hc : s[0].toNat < 128
  all_goals
    first | simp only [if_pos hc] at hb | simp only [if_neg hc] at hb
    go_enter Tryz.func261, Tryz.ntmps261
    go_wp2_with fail
    refine (hb _).mono ?_
    rintro e w1 ⟨⟨n, rfl, hn1, hn2⟩, hbw⟩
    by_cases hs : PhS.isSign s[0] = true
    · have hn := hn1 hs
      clear hn1 hn2
      go_wp2_with fail
      go_ret
      exact ⟨by rw [HL.out, if_pos hs]; rfl, hbw⟩
    · have hn := hn2 (by simpa using hs)
      clear hn1 hn2
      go_wp2_with fail
      go_ret
      exact ⟨by rw [HL.out, if_neg hs]; rfl, hbw⟩

/-- where the loop over the runes stands -/
def LiaLoop (s : ByteArray) (w : World) (i : Value) (w' : World) : Prop :=
  ∃ k : Nat, k ≤ s.size ∧ i = .int .i64 k ∧ Env w' ∧ Below w.heap.size w w' ∧ Hid (PhS.lastW PhS.isSign (s.data.toList.take k) = PhS.lastW PhS.isSign s.data.toList)

set_option maxRecDepth 100000 in
theorem lia_few (s : ByteArray) (h : ¬ s.size = 1) (h8 : s.size ≤ 8) (w : World) (hE : Env w) :
    Calls Tryz.prog 261 #[.string s, .string ⟨#[43, 45]⟩] w (LiaRet s w) := by
  have h8' : ¬ 8 < s.size := by omega
  go_enter Tryz.func261, Tryz.ntmps261
  go_wp2_with fail
  refine (Tryz.strings_shouldUseASCIISet _ _).mono ?_
  rintro e w1 ⟨rfl, hw1⟩
  subst hw1
  go_wp2_with fail
  go_loopw [13] (fun i w' => LiaLoop s w1 i w') (fun i _ => (intOf i).toNat)
  case atStart => exact ⟨s.size, Nat.le_refl _, rfl, hE, Below.refl _ _, Lib.hid (by rw [List.take_of_length_le (by simp)])⟩
  case round =>
    obtain ⟨k, hk, rfl, hEw, hbw, HK⟩ := hrel
    by_cases hk0 : 0 < k
    · have hst := lastW_step (s.extract 0 k).data.toList (by intro hh; have := congrArg List.length hh; rw [List.length_nil, Array.length_toList, ByteArray.size_data, ByteArray.size_extract] at this; omega)
      have hle : (s.extract 0 k).size ≤ 9223372036854775807 := by simp; omega
      have hcon := Tryz.utf8_DecodeLastRuneInString (s.extract 0 k) wr hle hEw.utf
      have hxl : (s.extract 0 k).data.toList = s.data.toList.take k := by simp
      rw [hxl] at hst hcon
      have hlen : (s.data.toList.take k).length = k := by simp; omega
      rw [hlen] at hst
      generalize Lib.decodeLastL (s.data.toList.take k) = d at hst hcon
      obtain ⟨r, n⟩ := d
      simp only at hst hcon
      obtain ⟨hn1, hn2, hst⟩ := hst
      have htk : ∀ m, m ≤ k → (s.data.toList.take k).take m = s.data.toList.take m := fun m hm => by rw [List.take_take, Nat.min_eq_left hm]
      rw [htk _ (by omega), htk _ (by omega)] at hst
      have HST := Lib.hid hst
      clear hst hlen hxl htk hle
      have hsub : IntKind.i64.wrap ((k : Int) - n) = (k : Int) - n := Go.IntWalk.i64_in _ (by omega)
      go_wp2_with fail
      refine hcon.mono ?_
      rintro e w2 ⟨rfl, hb2⟩
      rcases HST.out with ⟨c, hd, hc, hv⟩ | ⟨hr, hv⟩
      · have HV := Lib.hid hv
        clear hv
        simp only [Prod.mk.injEq] at hd
        obtain ⟨rfl, rfl⟩ := hd
        have hb := indexRune_byte c
        simp only [if_pos hc] at hb
        go_wp2_with fail
        refine (hb _).mono ?_
        rintro e w3 ⟨⟨n, rfl, hp, hm⟩, hb3⟩
        by_cases hs : PhS.isSign c = true
        · have hn := hp hs
          clear hp hm
          go_wp2_with fail
          go_ret
          refine ⟨?_, below_trans hbw (below_trans hb2 hb3)⟩
          rw [← HK.out, HV.out, if_pos hs]
          rw [show ((k - 1 : Nat) : Int) = (k : Int) - 1 by omega]; rfl
        · have hn := hm (by simpa using hs)
          clear hp hm
          go_wp2_with fail
          go_roundw
          case rel =>
            refine ⟨k - 1, by omega, by rw [show ((k - 1 : Nat) : Int) = (k : Int) - 1 by omega], (hEw.below hb2).below hb3, below_trans hbw (below_trans hb2 hb3), Lib.hid ?_⟩
            rw [← HK.out, HV.out, if_neg hs]
          case measure => simp [intOf]; omega
      · have HV := Lib.hid hv
        clear hv
        go_wp2_with fail
        refine (indexRune_high _ (by exact_mod_cast hr) _).mono ?_
        rintro e w3 ⟨rfl, hb3⟩
        go_wp2_with fail
        go_roundw
        case rel =>
          refine ⟨k - n, by omega, by rw [show ((k - n : Nat) : Int) = (k : Int) - n by omega], (hEw.below hb2).below hb3, below_trans hbw (below_trans hb2 hb3), Lib.hid ?_⟩
          rw [← HK.out, HV.out]
        case measure => simp [intOf]; omega
    · have hk0' : k = 0 := by omega
      subst hk0'
      have HF : Hid (PhS.lastW PhS.isSign s.data.toList = -1) := Lib.hid (by rw [← HK.out]; rfl)
      go_wp2_with fail
      go_ret
      exact ⟨by rw [HF.out]; rfl, hbw⟩

/-- where the loop over the bytes stands -/
def LiaByte (s : ByteArray) (i : Value) : Prop :=
  ∃ k : Nat, k ≤ s.size ∧ i = .int .i64 ((k : Int) - 1) ∧ Hid (PhS.lastW PhS.isSign (s.data.toList.take k) = PhS.lastW PhS.isSign s.data.toList)

theorem sign_contains (c : UInt8) : ([43, 45] : List UInt8).contains c = PhS.isSign c := by
  unfold PhS.isSign
  rw [List.contains_cons, List.contains_cons, List.contains_nil, Bool.or_false]

theorem setInfo : (Tryz.prog.info? 311).map (fun i => (i.zero, i.size)) = some (some (.agg (Array.replicate 256 (.bool false))), 256) := by kernel_rfl
theorem below_twice (w : World) (a b : Obj) : Below w.heap.size w ((w.alloc a).alloc b) := ((Below.refl _ _).alloc (Nat.le_refl _) _).alloc (Nat.le_trans (Nat.le_refl _) ((Below.refl _ _).alloc (Nat.le_refl _) _).size) _

set_option maxRecDepth 100000 in
theorem lia_many (s : ByteArray) (h8 : 8 < s.size) (hsz : s.size ≤ 281474976710656) (w : World) :
    Calls Tryz.prog 261 #[.string s, .string ⟨#[43, 45]⟩] w (LiaRet s w) := by
  have h1 : ¬ s.size = 1 := by omega
  have hset : Hid (∀ x : UInt8, (Lib.setCells [43, 45])[x.toNat]? = some (.bool (PhS.isSign x))) := Lib.hid fun x => by rw [Lib.setCells_at, sign_contains]
  go_enter Tryz.func261, Tryz.ntmps261
  go_wp2_with fail
  refine (Tryz.strings_shouldUseASCIISet _ _).mono ?_
  rintro e w1 ⟨rfl, hw1⟩
  subst hw1
  have hmk := Tryz.strings_makeASCIISet (zero_of_info setInfo).1 ⟨#[43, 45]⟩ w1 (by decide) (by
    intro j b hj
    match j with
    | 0 => simp at hj; subst hj; decide
    | 1 => simp at hj; subst hj; decide
    | j + 2 => simp at hj)
  have hsc : (storeCells ⟨w1.heap.size + 1, 0, none⟩ (Lib.setCells [43, 45]).toList 0).run Tryz.prog ((w1.alloc (.cells (Lib.setCells [43, 45]) 311)).alloc (.cells (Array.replicate 256 (.bool false)) 311)) = .ok () ((w1.alloc (.cells (Lib.setCells [43, 45]) 311)).alloc (.cells (Lib.setCells [43, 45]) 311)) := by
    have := run_storeCells_new (P := Tryz.prog) (w1.alloc (.cells (Lib.setCells [43, 45]) 311)) 311 (Array.replicate 256 (.bool false)) (Lib.setCells [43, 45]) (by rw [Lib.setCells_size]; exact (zero_of_info setInfo).2) (by rw [Lib.setCells_size, Array.size_replicate]) (Lib.setCells_one _)
    simpa using this
  have hcell : ∀ x : UInt8, ((w1.alloc (.cells (Lib.setCells [43, 45]) 311)).alloc (.cells (Lib.setCells [43, 45]) 311)).cell? ⟨w1.heap.size + 1, x.toNat, none⟩ = some (.bool (PhS.isSign x)) := fun x => by
    rw [World.cell?_alloc_at _ _ _ _ (by simp)]; exact hset.out x
  have HC := Lib.hid hcell
  clear hcell hset
  go_wp2_with fail
  refine hmk.mono ?_
  rintro e w2 ⟨rfl, hw2⟩
  subst hw2
  go_wp2_with fail
  rw [show Tryz.zeroCells311 = Array.replicate 256 (Value.bool false) by kernel_rfl]
  simp only [hsc, Result.andThen]
  rw [Oper.upon_skip]
  clear hsc hmk
  go_wp2_with fail
  go_loop [8] (fun i => LiaByte s i) (fun i => (intOf i + 1).toNat)
  case atStart => exact ⟨s.size, Nat.le_refl _, rfl, Lib.hid (by rw [List.take_of_length_le (by simp)])⟩
  case round =>
    obtain ⟨k, hk, rfl, HK⟩ := hrel
    by_cases hk0 : 0 < k
    · have h0k : 0 ≤ (k : Int) - 1 := by omega
      have hcon := Tryz.asciiSet_contains (w1.heap.size + 1) s[k - 1] (PhS.isSign s[k - 1]) _ (HC.out _)
      have hidx : ((k : Int) - 1).toNat = k - 1 := by omega
      have HV : Hid (PhS.lastW PhS.isSign (s.data.toList.take k) = if PhS.isSign s[k - 1] then ((k - 1 : Nat) : Int) else PhS.lastW PhS.isSign (s.data.toList.take (k - 1))) := Lib.hid (by
        have := PhS.take_snoc s (k - 1) (by omega)
        rw [show k - 1 + 1 = k by omega] at this
        rw [this, PhS.lastW_snoc, List.length_take, Array.length_toList, ByteArray.size_data, Nat.min_eq_left (by omega)])
      generalize hsg : PhS.isSign s[k - 1] = sg at hcon HV
      clear hsg
      go_wp2_with fail
      refine hcon.mono ?_
      rintro e w3 ⟨rfl, hw3⟩
      subst hw3
      cases sg with
      | true =>
        go_wp2_with fail
        go_ret
        refine ⟨?_, below_twice _ _ _⟩
        rw [← HK.out, HV.out, show ((k - 1 : Nat) : Int) = (k : Int) - 1 by omega]; simp only [if_true]; rfl
      | false =>
        go_wp2_with fail
        go_round
        case rel => exact ⟨k - 1, by omega, by rw [show ((k - 1 : Nat) : Int) = (k : Int) - 1 by omega], Lib.hid (by rw [← HK.out, HV.out]; rfl)⟩
        case measure => simp [intOf]; omega
    · have hk0' : k = 0 := by omega
      subst hk0'
      have HF : Hid (PhS.lastW PhS.isSign s.data.toList = -1) := Lib.hid (by rw [← HK.out]; rfl)
      go_wp2_with fail
      go_ret
      exact ⟨by rw [HF.out]; rfl, below_twice _ _ _⟩

theorem lastIndexAny (s : ByteArray) (hsz : s.size ≤ 281474976710656) (w : World) (hE : Env w) :
    Calls Tryz.prog 261 #[.string s, .string ⟨#[43, 45]⟩] w (LiaRet s w) := by
  by_cases h1 : s.size = 1
  · exact lia_one s h1 w
  · by_cases h8 : 8 < s.size
    · exact lia_many s h8 hsz w
    · exact lia_few s h1 (by omega) w hE
end Go.Proofs.YtifjghkgmfmneaaGreatDoor
