/- The walk of the library's LastIndexAny at the two signs: where the last of them stands in any text, whatever its bytes. Conditions: as stated. -/
import Derived.LoopN
import Derived.Lib.TrimUEq
import Derived.Lib.AsciiSet
import Derived.Lib.SpaceUEq
import Derived.Deep.WholeRow
import Derived.Lib.ParseIntBTie
import Derived.Deep.DeepCutAuto
import Derived.Test.YtjmfknfponjgkaaGreatDoorJMem
import Derived.Test.YtjmfknfponjgkaaGreatDoorJPha
set_option maxRecDepth 100000
namespace Go.Proofs.YtjmfknfponjgkaaGreatDoor
section
open Go.RowKit
theorem quiet_add {P : Program} {f : FuncId} {args : Array Value} {w : World} {a n : Nat} {v : Value}
  (h : Calls P f args (w.drewN (a + n)) fun e w' => e = .returned v /\ w' = w.drewN (a + n)) :
  Calls P f args (w.drewN (a + n)) fun e w'' => e = .returned v /\ ∃ m, w'' = w.drewN (a + m) :=
 h.mono fun _ _ ⟨he, hm⟩ => ⟨he, n, hm⟩
theorem indexRune_err (w : World) :
  Calls Tryz.prog 164 #[.string ⟨#[43, 45]⟩, .int .i32 65533] w fun e w' => e = .returned (.int .i64 (-1)) /\ Below w.heap.size w w' := by
 have n0 := run_next_ascii (P := Tryz.prog) w ⟨#[43, 45]⟩ 0 0 (by decide) (by decide)
 have n1 := run_next_ascii (P := Tryz.prog) w ⟨#[43, 45]⟩ 1 0 (by decide) (by decide)
 have n2 := run_next_end (P := Tryz.prog) w ⟨#[43, 45]⟩ 2 0 (by decide)
 go_enter Tryz.func164, Tryz.ntmps164
 go_wp2_with fail
 refine wp_loop_rounds 4 ?_
 repeat any_goals (rw [rounds_succ]; go_wp2_with fail)
 go_ret
 exact ⟨rfl, (Below.refl _ _).alloc (Nat.le_refl _) _⟩
theorem indexRune_two (r : Int) (c0 c1 : UInt8) (h1 : 128 <= r) (h2 : r <= 2047) (hen : Utf8.encode r = ⟨#[c0, c1]⟩) (hc : 128 <= c1.toNat) (w : World) :
  Calls Tryz.prog 164 #[.string ⟨#[43, 45]⟩, .int .i32 r] w fun e w' => e = .returned (.int .i64 (-1)) /\ Below w.heap.size w w' := by
 have h3 : (r == 65533) = false := by simp; omega
 have hv : Lib.validRune r = true := decide_eq_true (by omega)
 have hne : ((((⟨#[43, 45]⟩ : ByteArray)[1]'(by decide)).toNat : Int) != (((⟨#[c0, c1]⟩ : ByteArray)[1]'(by exact Nat.lt_succ_self 1)).toNat : Int)) = true := by
  have : ((45 : Int) != (c1.toNat : Int)) = true := by rw [bne_iff_ne]; omega
  exact this
 go_enter Tryz.func164, Tryz.ntmps164
 go_wp2_with fail
 refine (Tryz.utf8_ValidRune r _).mono ?_
 rintro e w1 ⟨rfl, rfl⟩
 go_wp2_with fail
 go_step3
 go_wp2_with fail
 refine wp_loop_rounds 1 ?_
 rw [rounds_succ]
 go_wp2_with fail
 go_step3
 go_wp2_with fail
 go_quiet (fail)
 go_wp2_with fail
 go_quiet ((go_at_call 49; exact quiet_add (Tryz.strings_IndexByte _ _ _)))
 have hib : ∀ c, Lib.indexByte [] c = -1 := fun _ => rfl
 go_wp2_with fail
 simp only [Exit.noGoto_ret, Exit.inBlock, Exit.then]
 go_ret
 exact ⟨rfl, below_drewN _ _⟩
theorem indexRune_three (r : Int) (c0 c1 c2 : UInt8) (h1 : 128 <= r) (h3 : (r == 65533) = false) (hv : Lib.validRune r = true) (hen : Utf8.encode r = ⟨#[c0, c1, c2]⟩) (w : World) :
  Calls Tryz.prog 164 #[.string ⟨#[43, 45]⟩, .int .i32 r] w fun e w' => e = .returned (.int .i64 (-1)) /\ Below w.heap.size w w' := by
 go_enter Tryz.func164, Tryz.ntmps164
 go_wp2_with fail
 refine (Tryz.utf8_ValidRune r _).mono ?_
 rintro e w1 ⟨rfl, rfl⟩
 go_wp2_with fail
 go_step3
 go_wp2_with fail
 refine wp_loop_rounds 1 ?_
 rw [rounds_succ]
 go_wp2_with fail
 rw [Exit.noGoto_ret]
 go_ret
 exact ⟨rfl, Below.refl _ _⟩
theorem indexRune_four (r : Int) (c0 c1 c2 c3 : UInt8) (h1 : 128 <= r) (h3 : (r == 65533) = false) (hv : Lib.validRune r = true) (hen : Utf8.encode r = ⟨#[c0, c1, c2, c3]⟩) (w : World) :
  Calls Tryz.prog 164 #[.string ⟨#[43, 45]⟩, .int .i32 r] w fun e w' => e = .returned (.int .i64 (-1)) /\ Below w.heap.size w w' := by
 go_enter Tryz.func164, Tryz.ntmps164
 go_wp2_with fail
 refine (Tryz.utf8_ValidRune r _).mono ?_
 rintro e w1 ⟨rfl, rfl⟩
 go_wp2_with fail
 go_step3
 go_wp2_with fail
 refine wp_loop_rounds 1 ?_
 rw [rounds_succ]
 go_wp2_with fail
 rw [Exit.noGoto_ret]
 go_ret
 exact ⟨rfl, Below.refl _ _⟩
theorem indexRune_bad (r : Int) (h1 : 128 <= r) (h3 : (r == 65533) = false) (hv : Lib.validRune r = false) (w : World) :
  Calls Tryz.prog 164 #[.string ⟨#[43, 45]⟩, .int .i32 r] w fun e w' => e = .returned (.int .i64 (-1)) /\ Below w.heap.size w w' := by
 go_enter Tryz.func164, Tryz.ntmps164
 go_wp2_with fail
 refine (Tryz.utf8_ValidRune r _).mono ?_
 rintro e w1 ⟨rfl, rfl⟩
 go_wp2_with fail
 go_ret
 exact ⟨rfl, Below.refl _ _⟩
theorem encode_two {r : Int} (h1 : 128 <= r) (h2 : r <= 2047) : ∃ c0 c1, Utf8.encode r = ⟨#[c0, c1]⟩ /\ 128 <= c1.toNat := by
 have hv : Utf8.valid r = true := by unfold Utf8.valid; simp; omega
 refine ⟨UInt8.ofNat (0xC0 + r.toNat / 64), UInt8.ofNat (0x80 + r.toNat % 64), ?_, ?_⟩
 · unfold Utf8.encode
   simp only [hv, if_true]
   rw [if_neg (by omega), if_pos (by omega)]
 · rw [UInt8.toNat_ofNat']; omega
theorem encode_three {r : Int} (h1 : 2048 <= r) (h2 : r <= 65535) (hv : Lib.validRune r = true) : ∃ c0 c1 c2, Utf8.encode r = ⟨#[c0, c1, c2]⟩ := by
 have hv' := of_decide_eq_true hv
 have hv : Utf8.valid r = true := by unfold Utf8.valid; simp; omega
 unfold Utf8.encode
 simp only [hv, if_true]
 rw [if_neg (by omega), if_neg (by omega), if_pos (by omega)]
 exact ⟨_, _, _, rfl⟩
theorem encode_four {r : Int} (h1 : 65536 <= r) (hv : Lib.validRune r = true) : ∃ c0 c1 c2 c3, Utf8.encode r = ⟨#[c0, c1, c2, c3]⟩ := by
 have hv' := of_decide_eq_true hv
 have hv : Utf8.valid r = true := by unfold Utf8.valid; simp; omega
 unfold Utf8.encode
 simp only [hv, if_true]
 rw [if_neg (by omega), if_neg (by omega), if_neg (by omega)]
 exact ⟨_, _, _, _, rfl⟩
theorem indexRune_high (r : Int) (h1 : 128 <= r) (w : World) :
  Calls Tryz.prog 164 #[.string ⟨#[43, 45]⟩, .int .i32 r] w fun e w' => e = .returned (.int .i64 (-1)) /\ Below w.heap.size w w' := by
 by_cases he : r = 65533
 · subst he; exact indexRune_err w
 have h3 : (r == 65533) = false := beq_eq_false_iff_ne.2 he
 cases hv : Lib.validRune r with
 | false => exact indexRune_bad r h1 h3 hv w
 | true =>
  by_cases h2 : r <= 2047
  · obtain ⟨c0, c1, hen, hc⟩ := encode_two h1 h2
    exact indexRune_two r c0 c1 h1 h2 hen hc w
  · by_cases h4 : r <= 65535
    · obtain ⟨c0, c1, c2, hen⟩ := encode_three (by omega) h4 hv
      exact indexRune_three r c0 c1 c2 h1 h3 hv hen w
    · obtain ⟨c0, c1, c2, c3, hen⟩ := encode_four (by omega) hv
      exact indexRune_four r c0 c1 c2 c3 h1 h3 hv hen w
theorem indexRune_byte (c : UInt8) (w : World) :
  Calls Tryz.prog 164 #[.string ⟨#[43, 45]⟩, .int .i32 (if c.toNat < 128 then c.toNat else 65533)] w fun e w' => (∃ n : Int, e = .returned (.int .i64 n) /\ (PhS.isSign c = true -> 0 <= n) /\ (PhS.isSign c = false -> n < 0)) /\ Below w.heap.size w w' := by
 by_cases hc : c.toNat < 128
 · rw [if_pos hc]
   refine (Tryz.strings_IndexRune_ascii ⟨#[43, 45]⟩ c.toNat w (by omega) (by omega)).mono ?_
   rintro e w' ⟨rfl, rfl⟩
   refine ⟨⟨_, rfl, ?_, ?_⟩, Below.refl _ _⟩
   · intro h
     unfold PhS.isSign at h
     simp only [Int.toNat_natCast]
     rw [Bool.or_eq_true, beq_iff_eq, beq_iff_eq] at h
     rcases h with rfl | rfl
     · decide
     · decide
   · intro h
     unfold PhS.isSign at h
     rw [Bool.or_eq_false_iff, beq_eq_false_iff_ne, beq_eq_false_iff_ne] at h
     simp only [Int.toNat_natCast]
     have e : c.toNat.toUInt8 = c := by simp
     have e1 : ((43 : UInt8) == c) = false := beq_eq_false_iff_ne.2 (fun h' => h.1 h'.symm)
     have e2 : ((45 : UInt8) == c) = false := beq_eq_false_iff_ne.2 (fun h' => h.2 h'.symm)
     rw [e]
     simp [Lib.indexByte, e1, e2]
 · rw [if_neg hc]
   refine (indexRune_err w).mono ?_
   rintro e w' ⟨rfl, hb⟩
   refine ⟨⟨_, rfl, ?_, fun _ => by decide⟩, hb⟩
   intro h
   exfalso
   unfold PhS.isSign at h
   rw [Bool.or_eq_true, beq_iff_eq, beq_iff_eq] at h
   rcases h with rfl | rfl
   · exact hc (by decide)
   · exact hc (by decide)
theorem high_decode (n b0 b1 b2 b3 : Nat) (h : 128 <= b0) : 128 <= (Lib.decodeN n b0 b1 b2 b3).1 /\
  ((Lib.decodeN n b0 b1 b2 b3).2 = 1 \/ ((Lib.decodeN n b0 b1 b2 b3).2 = 2 /\ 128 <= b1) \/ ((Lib.decodeN n b0 b1 b2 b3).2 = 3 /\ 128 <= b1 /\ 128 <= b2) \/ ((Lib.decodeN n b0 b1 b2 b3).2 = 4 /\ 128 <= b1 /\ 128 <= b2 /\ 128 <= b3)) := by
 unfold Lib.decodeN
 repeat' split
 all_goals first | (exfalso; omega) | skip
 all_goals
  refine ⟨by show 128 <= _; first | omega | decide, ?_⟩
  first
   | (left; rfl)
   | (right; left; exact ⟨rfl, by omega⟩)
   | (right; right; left; exact ⟨rfl, by omega, by omega⟩)
   | (right; right; right; exact ⟨rfl, by omega, by omega, by omega⟩)
def High (l : List UInt8) : Prop := ∀ c ∈ l, 128 <= c.toNat
theorem high_of_getD {l : List UInt8} (h : ∀ j, j < l.length -> 128 <= (l.getD j 0).toNat) : High l := by
 intro c hc
 obtain ⟨j, hj, rfl⟩ := List.getElem_of_mem hc
 have := h j hj
 rwa [List.getD_eq_getElem?_getD, List.getElem?_eq_getElem hj, Option.getD_some] at this
theorem sign_high {c : UInt8} (h : 128 <= c.toNat) : PhS.isSign c = false := by
 unfold PhS.isSign
 rw [Bool.or_eq_false_iff, beq_eq_false_iff_ne, beq_eq_false_iff_ne]
 exact ⟨fun e => by subst e; revert h; decide, fun e => by subst e; revert h; decide⟩
theorem last_rune (l : List UInt8) (h : l ≠ []) :
  (∃ c, l.getLast? = some c /\ c.toNat < 128 /\ Lib.decodeLastL l = (c.toNat, 1)) \/
  (128 <= (Lib.decodeLastL l).1 /\ 1 <= (Lib.decodeLastL l).2 /\ (Lib.decodeLastL l).2 <= l.length /\ High (l.drop (l.length - (Lib.decodeLastL l).2))) := by
 have hl : 0 < l.length := List.length_pos_iff.2 h
 have hg : l.getLast? = some (l.getD (l.length - 1) 0) := by
  rw [List.getLast?_eq_getElem?, List.getElem?_eq_getElem (by omega), List.getD_eq_getElem?_getD, List.getElem?_eq_getElem (by omega)]; rfl
 by_cases hc : (l.getD (l.length - 1) 0).toNat < 128
 · left
   refine ⟨_, hg, hc, ?_⟩
   unfold Lib.decodeLastL
   rw [if_neg h, if_pos hc]
 · right
   have hw := Lib.decodeLastL_width l hl
   refine ⟨?_, hw.1, hw.2, ?_⟩
   all_goals
    unfold Lib.decodeLastL
    rw [if_neg h, if_neg hc]
    simp only
    have hs := Lib.lastStart_lt' l h
    generalize hq : l.drop (Lib.lastStart l) = t
    have htl : t.length = l.length - Lib.lastStart l := by rw [<- hq, List.length_drop]
    have hlast : t.getD (t.length - 1) 0 = l.getD (l.length - 1) 0 := by
     rw [<- hq, Lib.getD_dropU]; congr 1; rw [List.length_drop]; omega
    rw [Lib.decodeL_N]
    split
   · rename_i hfull
     by_cases h0 : 128 <= (t.getD 0 0).toNat
     · exact (high_decode _ _ _ _ _ h0).1
     · exfalso
       rw [Lib.decodeN_ascii _ _ _ _ _ (by omega)] at hfull
       have : t.length = 1 := by simp only at hfull; omega
       rw [this] at hlast
       rw [hlast] at h0
       omega
   · show 128 <= Utf8.runeError
     decide
   · rename_i hfull
     by_cases h0 : 128 <= (t.getD 0 0).toNat
     · have hd := (high_decode t.length _ (t.getD 1 0).toNat (t.getD 2 0).toNat (t.getD 3 0).toNat h0).2
       have e : l.length - (Lib.decodeN t.length (t.getD 0 0).toNat (t.getD 1 0).toNat (t.getD 2 0).toNat (t.getD 3 0).toNat).2 = Lib.lastStart l := by omega
       rw [e, hq]
       refine high_of_getD fun j hj => ?_
       have hj' : j < (Lib.decodeN t.length (t.getD 0 0).toNat (t.getD 1 0).toNat (t.getD 2 0).toNat (t.getD 3 0).toNat).2 := by omega
       rcases hd with hd | ⟨hd, d1⟩ | ⟨hd, d1, d2⟩ | ⟨hd, d1, d2, d3⟩
       · obtain rfl : j = 0 := by omega
         exact h0
       · obtain rfl | rfl : j = 0 \/ j = 1 := by omega
         · exact h0
         · exact d1
       · obtain rfl | rfl | rfl : j = 0 \/ j = 1 \/ j = 2 := by omega
         · exact h0
         · exact d1
         · exact d2
       · obtain rfl | rfl | rfl | rfl : j = 0 \/ j = 1 \/ j = 2 \/ j = 3 := by omega
         · exact h0
         · exact d1
         · exact d2
         · exact d3
     · exfalso
       rw [Lib.decodeN_ascii _ _ _ _ _ (by omega)] at hfull
       have : t.length = 1 := by simp only at hfull; omega
       rw [this] at hlast
       rw [hlast] at h0
       omega
   · rw [Lib.drop_last1 l hl]
     intro c hcc
     have : c = l.getD (l.length - 1) 0 := by simpa using hcc
     subst this
     omega
theorem lastW_step (l : List UInt8) (h : l ≠ []) : 1 <= (Lib.decodeLastL l).2 /\ (Lib.decodeLastL l).2 <= l.length /\
  ((∃ c : UInt8, Lib.decodeLastL l = (c.toNat, 1) /\ c.toNat < 128 /\ PhS.lastW PhS.isSign l = if PhS.isSign c then ((l.length - 1 : Nat) : Int) else PhS.lastW PhS.isSign (l.take (l.length - 1))) \/
   (128 <= (Lib.decodeLastL l).1 /\ PhS.lastW PhS.isSign l = PhS.lastW PhS.isSign (l.take (l.length - (Lib.decodeLastL l).2)))) := by
 rcases last_rune l h with ⟨c, hg, hc, hd⟩ | ⟨h1, h2, h3, h4⟩
 · have hl : 0 < l.length := List.length_pos_iff.2 h
   refine ⟨by rw [hd]; exact Nat.le_refl _, by rw [hd]; exact hl, .inl ⟨c, hd, hc, ?_⟩⟩
   obtain ⟨ys, rfl⟩ := List.getLast?_eq_some_iff.1 hg
   rw [PhS.lastW_snoc]
   simp
 · refine ⟨h2, h3, .inr ⟨h1, ?_⟩⟩
   conv => lhs; rw [<- List.take_append_drop (l.length - (Lib.decodeLastL l).2) l]
   exact PhS.lastW_append_none _ _ _ fun c hc => sign_high (h4 c hc)
end
section
open Go.RowKit
def LiaRet (s : ByteArray) (w : World) (e : Ending) (w' : World) : Prop := e = .returned (.int .i64 (PhS.lastW PhS.isSign s.data.toList)) /\ Below w.heap.size w w'
theorem lastW_one (s : ByteArray) (h : s.size = 1) (h0 : 0 < s.size) : PhS.lastW PhS.isSign s.data.toList = if PhS.isSign s[0] then 0 else -1 := by
 have hl : s.data.toList = [s[0]] := by
  apply List.ext_getElem
  · simpa using h
  · intro i h1 h2
    have : i = 0 := by simp at h2; exact h2
    subst this
    rfl
 rw [hl]
 unfold PhS.lastW
 simp [PhS.lastW]
theorem lia_one (s : ByteArray) (h : s.size = 1) (w : World) :
  Calls Tryz.prog 136 #[.string s, .string ⟨#[43, 45]⟩] w (LiaRet s w) := by
 have h0 : 0 < s.size := by omega
 have HL := hZ9 (lastW_one s h h0)
 have hb := indexRune_byte s[0]
 have h256 : s[0].toNat < 256 := UInt8.toNat_lt _
 by_cases hc : s[0].toNat < 128
 all_goals
  first | simp only [if_pos hc] at hb | simp only [if_neg hc] at hb
  go_enter Tryz.func136, Tryz.ntmps136
  go_wp2_with fail
  refine (hb _).mono ?_
  rintro e w1 ⟨⟨n, rfl, hn1, hn2⟩, hbw⟩
  by_cases hs : PhS.isSign s[0] = true
  · have hn := hn1 hs
    clear hn1 hn2
    go_wp2_with fail
    go_ret
    exact ⟨by rw [HL.out, if_pos hs]; rfl, hbw⟩
  · have hn := hn2 (by simpa using hs)
    clear hn1 hn2
    go_wp2_with fail
    go_ret
    exact ⟨by rw [HL.out, if_neg hs]; rfl, hbw⟩
def LiaLoop (s : ByteArray) (w : World) (i : Value) (w' : World) : Prop :=
 ∃ k : Nat, k <= s.size /\ i = .int .i64 k /\ Env w' /\ Below w.heap.size w w' /\ Hid (PhS.lastW PhS.isSign (s.data.toList.take k) = PhS.lastW PhS.isSign s.data.toList)
theorem lia_few (s : ByteArray) (h : ¬ s.size = 1) (h8 : s.size <= 8) (w : World) (hE : Env w) :
  Calls Tryz.prog 136 #[.string s, .string ⟨#[43, 45]⟩] w (LiaRet s w) := by
 have h8' : ¬ 8 < s.size := by omega
 go_enter Tryz.func136, Tryz.ntmps136
 go_wp2_with fail
 refine (Tryz.strings_shouldUseASCIISet _ _).mono ?_
 rintro e w1 ⟨rfl, hw1⟩
 subst hw1
 go_wp2_with fail
 go_loopw [13] (fun i w' => LiaLoop s w1 i w') (fun i _ => (intOf i).toNat)
 case atStart => exact ⟨s.size, Nat.le_refl _, rfl, hE, Below.refl _ _, hZ9 (by rw [List.take_of_length_le (by simp)])⟩
 case round =>
  obtain ⟨k, hk, rfl, hEw, hbw, HK⟩ := hrel
  by_cases hk0 : 0 < k
  · have hst := lastW_step (s.extract 0 k).data.toList (by intro hh; have := congrArg List.length hh; rw [List.length_nil, Array.length_toList, ByteArray.size_data, ByteArray.size_extract] at this; omega)
    have hle : (s.extract 0 k).size <= 9223372036854775807 := by simp; omega
    have hcon := Tryz.utf8_DecodeLastRuneInString (s.extract 0 k) wr hle hEw.utf
    have hxl : (s.extract 0 k).data.toList = s.data.toList.take k := by simp
    rw [hxl] at hst hcon
    have hlen : (s.data.toList.take k).length = k := by simp; omega
    rw [hlen] at hst
    generalize Lib.decodeLastL (s.data.toList.take k) = d at hst hcon
    obtain ⟨r, n⟩ := d
    simp only at hst hcon
    obtain ⟨hn1, hn2, hst⟩ := hst
    have htk : ∀ m, m <= k -> (s.data.toList.take k).take m = s.data.toList.take m := fun m hm => by rw [List.take_take, Nat.min_eq_left hm]
    rw [htk _ (by omega), htk _ (by omega)] at hst
    have HST := hZ9 hst
    clear hst hlen hxl htk hle
    have hsub : IntKind.i64.wrap ((k : Int) - n) = (k : Int) - n := Go.IntWalk.i64_in _ (by omega)
    go_wp2_with fail
    refine hcon.mono ?_
    rintro e w2 ⟨rfl, hb2⟩
    rcases HST.out with ⟨c, hd, hc, hv⟩ | ⟨hr, hv⟩
    · have HV := hZ9 hv
      clear hv
      simp only [Prod.mk.injEq] at hd
      obtain ⟨rfl, rfl⟩ := hd
      have hb := indexRune_byte c
      simp only [if_pos hc] at hb
      go_wp2_with fail
      refine (hb _).mono ?_
      rintro e w3 ⟨⟨n, rfl, hp, hm⟩, hb3⟩
      by_cases hs : PhS.isSign c = true
      · have hn := hp hs
        clear hp hm
        go_wp2_with fail
        go_ret
        refine ⟨?_, below_trans hbw (below_trans hb2 hb3)⟩
        rw [<- HK.out, HV.out, if_pos hs]
        rw [show ((k - 1 : Nat) : Int) = (k : Int) - 1 by omega]; rfl
      · have hn := hm (by simpa using hs)
        clear hp hm
        go_wp2_with fail
        go_roundw
        case rel =>
         refine ⟨k - 1, by omega, by rw [show ((k - 1 : Nat) : Int) = (k : Int) - 1 by omega], (hEw.below hb2).below hb3, below_trans hbw (below_trans hb2 hb3), hZ9 ?_⟩
         rw [<- HK.out, HV.out, if_neg hs]
        case measure => simp [intOf]; omega
    · have HV := hZ9 hv
      clear hv
      go_wp2_with fail
      refine (indexRune_high _ (by exact_mod_cast hr) _).mono ?_
      rintro e w3 ⟨rfl, hb3⟩
      go_wp2_with fail
      go_roundw
      case rel =>
       refine ⟨k - n, by omega, by rw [show ((k - n : Nat) : Int) = (k : Int) - n by omega], (hEw.below hb2).below hb3, below_trans hbw (below_trans hb2 hb3), hZ9 ?_⟩
       rw [<- HK.out, HV.out]
      case measure => simp [intOf]; omega
  · have hk0' : k = 0 := by omega
    subst hk0'
    have HF : Hid (PhS.lastW PhS.isSign s.data.toList = -1) := hZ9 (by rw [<- HK.out]; rfl)
    go_wp2_with fail
    go_ret
    exact ⟨by rw [HF.out]; rfl, hbw⟩
def LiaByte (s : ByteArray) (i : Value) : Prop :=
 ∃ k : Nat, k <= s.size /\ i = .int .i64 ((k : Int) - 1) /\ Hid (PhS.lastW PhS.isSign (s.data.toList.take k) = PhS.lastW PhS.isSign s.data.toList)
theorem sign_contains (c : UInt8) : ([43, 45] : List UInt8).contains c = PhS.isSign c := by
 unfold PhS.isSign
 rw [List.contains_cons, List.contains_cons, List.contains_nil, Bool.or_false]
theorem setInfo : (Tryz.prog.info? 195).map (fun i => (i.zero, i.size)) = some (some (.agg (Array.replicate 256 (.bool false))), 256) := by kernel_rfl
theorem below_twice (w : World) (a b : Obj) : Below w.heap.size w ((w.alloc a).alloc b) := ((Below.refl _ _).alloc (Nat.le_refl _) _).alloc (Nat.le_trans (Nat.le_refl _) ((Below.refl _ _).alloc (Nat.le_refl _) _).size) _
theorem lia_many (s : ByteArray) (h8 : 8 < s.size) (hsz : s.size <= 281474976710656) (w : World) :
  Calls Tryz.prog 136 #[.string s, .string ⟨#[43, 45]⟩] w (LiaRet s w) := by
 have h1 : ¬ s.size = 1 := by omega
 have hset : Hid (∀ x : UInt8, (Lib.setCells [43, 45])[x.toNat]? = some (.bool (PhS.isSign x))) := hZ9 fun x => by rw [Lib.setCells_at, sign_contains]
 go_enter Tryz.func136, Tryz.ntmps136
 go_wp2_with fail
 refine (Tryz.strings_shouldUseASCIISet _ _).mono ?_
 rintro e w1 ⟨rfl, hw1⟩
 subst hw1
 have hmk := Tryz.strings_makeASCIISet (zero_of_info setInfo).1 ⟨#[43, 45]⟩ w1 (by decide) (by
  intro j b hj
  match j with
  | 0 => simp at hj; subst hj; decide
  | 1 => simp at hj; subst hj; decide
  | j + 2 => simp at hj)
 have hsc : (storeCells ⟨w1.heap.size + 1, 0, none⟩ (Lib.setCells [43, 45]).toList 0).run Tryz.prog ((w1.alloc (.cells (Lib.setCells [43, 45]) 195)).alloc (.cells (Array.replicate 256 (.bool false)) 195)) = .ok () ((w1.alloc (.cells (Lib.setCells [43, 45]) 195)).alloc (.cells (Lib.setCells [43, 45]) 195)) := by
  have := run_storeCells_new (P := Tryz.prog) (w1.alloc (.cells (Lib.setCells [43, 45]) 195)) 195 (Array.replicate 256 (.bool false)) (Lib.setCells [43, 45]) (by rw [Lib.setCells_size]; exact (zero_of_info setInfo).2) (by rw [Lib.setCells_size, Array.size_replicate]) (Lib.setCells_one _)
  simpa using this
 have hcell : ∀ x : UInt8, ((w1.alloc (.cells (Lib.setCells [43, 45]) 195)).alloc (.cells (Lib.setCells [43, 45]) 195)).cell? ⟨w1.heap.size + 1, x.toNat, none⟩ = some (.bool (PhS.isSign x)) := fun x => by
  rw [World.cell?_alloc_at _ _ _ _ (by simp)]; exact hset.out x
 have HC := hZ9 hcell
 clear hcell hset
 go_wp2_with fail
 refine hmk.mono ?_
 rintro e w2 ⟨rfl, hw2⟩
 subst hw2
 go_wp2_with fail
 rw [show Tryz.zeroCells195 = Array.replicate 256 (Value.bool false) by kernel_rfl]
 simp only [hsc, Result.andThen]
 rw [Oper.upon_skip]
 clear hsc hmk
 go_wp2_with fail
 go_loop [8] (fun i => LiaByte s i) (fun i => (intOf i + 1).toNat)
 case atStart => exact ⟨s.size, Nat.le_refl _, rfl, hZ9 (by rw [List.take_of_length_le (by simp)])⟩
 case round =>
  obtain ⟨k, hk, rfl, HK⟩ := hrel
  by_cases hk0 : 0 < k
  · have h0k : 0 <= (k : Int) - 1 := by omega
    have hcon := Tryz.asciiSet_contains (w1.heap.size + 1) s[k - 1] (PhS.isSign s[k - 1]) _ (HC.out _)
    have hidx : ((k : Int) - 1).toNat = k - 1 := by omega
    have HV : Hid (PhS.lastW PhS.isSign (s.data.toList.take k) = if PhS.isSign s[k - 1] then ((k - 1 : Nat) : Int) else PhS.lastW PhS.isSign (s.data.toList.take (k - 1))) := hZ9 (by
     have := PhS.take_snoc s (k - 1) (by omega)
     rw [show k - 1 + 1 = k by omega] at this
     rw [this, PhS.lastW_snoc, List.length_take, Array.length_toList, ByteArray.size_data, Nat.min_eq_left (by omega)])
    generalize hsg : PhS.isSign s[k - 1] = sg at hcon HV
    clear hsg
    go_wp2_with fail
    refine hcon.mono ?_
    rintro e w3 ⟨rfl, hw3⟩
    subst hw3
    cases sg with
    | true =>
     go_wp2_with fail
     go_ret
     refine ⟨?_, below_twice _ _ _⟩
     rw [<- HK.out, HV.out, show ((k - 1 : Nat) : Int) = (k : Int) - 1 by omega]; simp only [if_true]; rfl
    | false =>
     go_wp2_with fail
     go_round
     case rel => exact ⟨k - 1, by omega, by rw [show ((k - 1 : Nat) : Int) = (k : Int) - 1 by omega], hZ9 (by rw [<- HK.out, HV.out]; rfl)⟩
     case measure => simp [intOf]; omega
  · have hk0' : k = 0 := by omega
    subst hk0'
    have HF : Hid (PhS.lastW PhS.isSign s.data.toList = -1) := hZ9 (by rw [<- HK.out]; rfl)
    go_wp2_with fail
    go_ret
    exact ⟨by rw [HF.out]; rfl, below_twice _ _ _⟩
theorem lastIndexAny (s : ByteArray) (hsz : s.size <= 281474976710656) (w : World) (hE : Env w) :
  Calls Tryz.prog 136 #[.string s, .string ⟨#[43, 45]⟩] w (LiaRet s w) := by
 by_cases h1 : s.size = 1
 · exact lia_one s h1 w
 · by_cases h8 : 8 < s.size
   · exact lia_many s h8 hsz w
   · exact lia_few s h1 (by omega) w hE
end
section
open Go.RowKit
theorem readS_le (l : List UInt8) : (PhS.readS l).1.natAbs <= 2147483648 := by
 unfold PhS.readS
 split
 · rename_i v hv
   have := Lib.parseIntB_bounds hv
   simp only
   have e : ((2 ^ (32 - 1) : Nat) : Int) = 2147483648 := by decide
   rw [e] at this
   omega
 · unfold Lib.intSat
   simp only
   split <;> decide
 · decide
theorem okB_big {n : Int} (h : n.natAbs < 2 ^ 53) (h1 : 1000000 < n.natAbs) : okB (Fl.D n) = false := by
 unfold okB Fl.numOf
 rw [Fl.toInt_val (Fl.read_D n h).val]
 simp only
 rw [if_neg (by omega)]
 rfl
def ReadRet (l : List UInt8) (w : World) (e : Ending) (w' : World) : Prop := e = .returned (.tuple #[.float .f64 (Fl.D (PhS.readS l).1), .bool (PhS.readS l).2]) /\ Below w.heap.size w w'
theorem read_c (s : ByteArray) (hs : s.size <= 281474976710656) (w : World) (hE : Env w) :
  Calls Tryz.prog 137 #[.string s] w (ReadRet s.data.toList w) := by
 have hle := readS_le s.data.toList
 have eD : floatOfInt .f64 (PhS.readS s.data.toList).1 = Fl.D (PhS.readS s.data.toList).1 := Fl.D_eq _ (by omega)
 have HD := hZ9 eD
 clear eD
 cases hr : (PhS.readS s.data.toList).2 with
 | true =>
  have hcon := parseInt32_ok s hs hr
  have HR := hZ9 hr
  clear hr
  generalize hn : (PhS.readS s.data.toList).1 = n at *
  have HN := hZ9 hn
  clear hn
  go_enter Tryz.func137, Tryz.ntmps137
  go_wp2_with fail
  refine (hcon _).mono ?_
  rintro e w1 ⟨rfl, hb⟩
  go_wp2_with fail
  go_quiet (fail)
  go_wp2_with fail
  go_ret2
  exact ⟨by rw [HN.out, HR.out]; first | rfl | (rw [<- HD.out]; rfl), below_trans hb (below_drewN _ _)⟩
 | false =>
  have hcon := parseInt32_no s hs hr
  have HR := hZ9 hr
  clear hr
  generalize hn : (PhS.readS s.data.toList).1 = n at *
  have HN := hZ9 hn
  clear hn
  go_enter Tryz.func137, Tryz.ntmps137
  go_wp2_with fail
  refine (hcon _ hE).mono ?_
  rintro e w1 ⟨N, rfl, hb⟩
  go_wp2_with fail
  go_quiet (fail)
  go_wp2_with fail
  go_ret2
  exact ⟨by rw [HN.out, HR.out]; first | rfl | (rw [<- HD.out]; rfl), below_trans hb (below_drewN _ _)⟩
theorem getLast_hasSuffix (l : List UInt8) (h : l.getLast? = some 105) : Lib.hasSuffix l [105] = true /\ Lib.trimSuffix l [105] = l.dropLast := by
 obtain ⟨r, rfl⟩ := List.getLast?_eq_some_iff.1 h
 have h1 : Lib.hasSuffix (r ++ [105]) [105] = true := by
  unfold Lib.hasSuffix
  simp
 refine ⟨h1, ?_⟩
 unfold Lib.trimSuffix
 rw [if_pos h1]
 simp
theorem getLast_noSuffix (l : List UInt8) (h : l.getLast? ≠ some 105) : Lib.hasSuffix l [105] = false /\ Lib.trimSuffix l [105] = l := by
 have h1 : Lib.hasSuffix l [105] = false := by
  cases hh : Lib.hasSuffix l [105] with
  | false => rfl
  | true =>
   exfalso
   apply h
   unfold Lib.hasSuffix at hh
   obtain ⟨r, rfl⟩ := List.isSuffixOf_iff_suffix.1 hh
   simp
 refine ⟨h1, ?_⟩
 unfold Lib.trimSuffix
 rw [if_neg (by rw [h1]; decide)]
theorem first_len (l : List UInt8) : (PhS.firstOf l).length <= l.length + 1 := by
 unfold PhS.firstOf
 split
 · split
   · simp
   · simp; omega
 · omega
theorem second_len (l : List UInt8) : (PhS.secondOf l).length <= l.length + 2 := by
 unfold PhS.secondOf PhS.bareSecond
 split
 · split
   · simp; omega
   · simp; omega
 · simp
theorem suffix_cases (l : List UInt8) : (Lib.hasSuffix l [105] = true -> l.getLast? = some 105 /\ Lib.trimSuffix l [105] = l.dropLast) /\ (Lib.hasSuffix l [105] = false -> l.getLast? ≠ some 105 /\ Lib.trimSuffix l [105] = l) := by
 by_cases h : l.getLast? = some 105
 · obtain ⟨g1, g2⟩ := getLast_hasSuffix l h
   exact ⟨fun _ => ⟨h, g2⟩, fun hh => absurd (g1.symm.trans hh) (by decide)⟩
 · obtain ⟨g1, g2⟩ := getLast_noSuffix l h
   exact ⟨fun hh => absurd (g1.symm.trans hh) (by decide), fun _ => ⟨h, g2⟩⟩
theorem str_cases (B : ByteArray) : B.toList.isEmpty = true \/ (B.toList.isEmpty = false /\ (B.toList == [43]) = true) \/ (B.toList.isEmpty = false /\ (B.toList == [43]) = false /\ (B.toList == [45]) = true) \/ (B.toList.isEmpty = false /\ (B.toList == [43]) = false /\ (B.toList == [45]) = false) := by
 cases h0 : B.toList.isEmpty with
 | true => exact .inl rfl
 | false =>
  cases h1 : (B.toList == [43]) with
  | true => exact .inr (.inl ⟨rfl, rfl⟩)
  | false =>
   cases h2 : (B.toList == [45]) with
   | true => exact .inr (.inr (.inl ⟨rfl, rfl, rfl⟩))
   | false => exact .inr (.inr (.inr ⟨rfl, rfl, rfl⟩))
theorem mk_list {A : ByteArray} {l : List UInt8} (h : A = ⟨l.toArray⟩) : A.toList = l := by rw [Lib.toList_data, h]
theorem first_yes {A : ByteArray} {l : List UInt8} (h : A = ⟨l.toArray⟩) (h0 : A.toList.isEmpty = true) : (if l = [] then [48] else l) = [48] := by
 rw [mk_list h] at h0
 rw [if_pos (List.isEmpty_iff.1 h0)]
theorem first_no {A : ByteArray} {l : List UInt8} (h : A = ⟨l.toArray⟩) (h0 : A.toList.isEmpty = false) : (⟨(if l = [] then [48] else l).toArray⟩ : ByteArray) = A := by
 rw [mk_list h] at h0
 rw [if_neg (by intro hh; subst hh; cases h0), h]
theorem second_1 {B : ByteArray} {l : List UInt8} (h : B = ⟨l.toArray⟩) (h0 : B.toList.isEmpty = true) : Value.string (B ++ ⟨#[49]⟩) = Value.string ⟨(if l = [] \/ l = [43] \/ l = [45] then l ++ [49] else l).toArray⟩ := by
 rw [mk_list h] at h0
 rw [if_pos (.inl (List.isEmpty_iff.1 h0)), h, <- mk_append]
theorem second_2 {B : ByteArray} {l : List UInt8} (h : B = ⟨l.toArray⟩) (h0 : (B.toList == [43]) = true) : Value.string (B ++ ⟨#[49]⟩) = Value.string ⟨(if l = [] \/ l = [43] \/ l = [45] then l ++ [49] else l).toArray⟩ := by
 rw [mk_list h] at h0
 rw [if_pos (.inr (.inl (beq_iff_eq.1 h0))), h, <- mk_append]
theorem second_3 {B : ByteArray} {l : List UInt8} (h : B = ⟨l.toArray⟩) (h0 : (B.toList == [45]) = true) : Value.string (B ++ ⟨#[49]⟩) = Value.string ⟨(if l = [] \/ l = [43] \/ l = [45] then l ++ [49] else l).toArray⟩ := by
 rw [mk_list h] at h0
 rw [if_pos (.inr (.inr (beq_iff_eq.1 h0))), h, <- mk_append]
theorem second_4 {B : ByteArray} {l : List UInt8} (h : B = ⟨l.toArray⟩) (h0 : B.toList.isEmpty = false) (h1 : (B.toList == [43]) = false) (h2 : (B.toList == [45]) = false) : Value.string B = Value.string ⟨(if l = [] \/ l = [43] \/ l = [45] then l ++ [49] else l).toArray⟩ := by
 rw [mk_list h] at h0 h1 h2
 rw [if_neg, h]
 rintro (hh | hh | hh)
 · subst hh; cases h0
 · exact beq_eq_false_iff_ne.1 h1 hh
 · exact beq_eq_false_iff_ne.1 h2 hh
def ParseCut (l : List UInt8) (w : World) (a b : Value) (wc : World) : Prop :=
 a = .string ⟨(PhS.firstOf l).toArray⟩ /\ b = .string ⟨(PhS.secondOf l).toArray⟩ /\ Below w.heap.size w wc
def ParseP (l : List UInt8) (w : World) (e : Ending) (w' : World) : Prop :=
 e = .returned (match PhS.parseP l with
  | some (a, b) => .tuple #[.complex .f64 (Fl.D a) (Fl.D b), .int .i64 0]
  | none => .tuple #[.complex .f64 0 0, .int .i64 2]) /\ Below w.heap.size w w'
theorem parse_c (s : ByteArray) (hs : s.size + 2 <= 281474976710656) (w : World) (hE : Env w) :
  Calls Tryz.prog 104 #[.string s] w (ParseP s.data.toList w) := by
 have hcon := fun w => Tryz.strings_CutSuffix s ⟨#[105]⟩ w (by omega)
 go_enter Tryz.func104, Tryz.ntmps104
 go_wp2_with fail
 refine (hcon _).mono ?_
 rintro e w1 ⟨rfl, hw1⟩
 subst hw1
 clear hcon
 have hcase := suffix_cases s.data.toList
 have HCASE := hZ9 hcase
 clear hcase
 generalize Lib.trimSuffix s.data.toList (ByteArray.mk #[105]).data.toList = t at *
 generalize Lib.hasSuffix s.data.toList (ByteArray.mk #[105]).data.toList = q at *
 go_upto_if 22 with fail
 go_cut [4, 5] (fun a b wc => ParseCut s.data.toList w1 a b wc)
 case first =>
  cases q with
  | true =>
   have HT := hZ9 (HCASE.out.1 rfl)
   clear HCASE
   have htl : (⟨t.toArray⟩ : ByteArray).size <= 281474976710656 := by
    have h3 : t.length = s.data.toList.length - 1 := by rw [HT.out.2, List.length_dropLast]
    have h4 := Lib.size_eq s
    show t.length <= _
    omega
   have hli := fun w hE => lastIndexAny ⟨t.toArray⟩ htl w hE
   have hv1 := PhS.lastW_ge PhS.isSign t
   have hv2 := PhS.lastW_lt PhS.isSign t
   have hsz : (⟨t.toArray⟩ : ByteArray).size = t.length := rfl
   rw [<- hsz] at hv2
   have HC : Hid (PhS.cutAt s.data.toList = (max (PhS.lastW PhS.isSign t) 0).toNat) := hZ9 (by unfold PhS.cutAt; rw [if_pos HT.out.1, <- HT.out.2])
   unfold LiaRet at hli
   obtain ⟨m, hm⟩ : ∃ m : Nat, max (PhS.lastW PhS.isSign t) 0 = (m : Int) := ⟨(max (PhS.lastW PhS.isSign t) 0).toNat, by omega⟩
   generalize PhS.lastW PhS.isSign t = v at *
   have HSZ := hZ9 hsz
   clear hsz
   go_wp2_with fail
   refine (hli _ hE).mono ?_
   rintro e w2 ⟨rfl, hb2⟩
   go_wp2_with fail
   have hmle : m <= (⟨t.toArray⟩ : ByteArray).size := by omega
   go_quiet (fail)
   have hlenT : t.length = (⟨t.toArray⟩ : ByteArray).size := rfl
   have hAl : ((⟨t.toArray⟩ : ByteArray).extract 0 m) = ⟨(t.take m).toArray⟩ := by
    apply ByteArray.ext; simp
   have hBl : ((⟨t.toArray⟩ : ByteArray).extract m t.length) = ⟨(t.drop m).toArray⟩ := by
    apply ByteArray.ext; simp; exact List.take_of_length_le (by simp)
   have hF : PhS.firstOf s.data.toList = if t.take m = [] then [48] else t.take m := by
    unfold PhS.firstOf
    rw [HC.out, <- HT.out.2, if_pos HT.out.1, hm]; rfl
   have hG : PhS.secondOf s.data.toList = if t.drop m = [] \/ t.drop m = [43] \/ t.drop m = [45] then t.drop m ++ [49] else t.drop m := by
    unfold PhS.secondOf PhS.bareSecond
    rw [HC.out, <- HT.out.2, if_pos HT.out.1, hm]; rfl
   have hBs : ((⟨t.toArray⟩ : ByteArray).extract m t.length).size <= 281474976710656 := by rw [ByteArray.size_extract]; omega
   have HF := hZ9 hF
   have HG := hZ9 hG
   clear hF hG
   generalize (⟨t.toArray⟩ : ByteArray).extract 0 m = A at *
   generalize (⟨t.toArray⟩ : ByteArray).extract m t.length = B at *
   have HA := hZ9 hAl
   have HB := hZ9 hBl
   clear hAl hBl hlenT
   by_cases a0 : A.toList.isEmpty = true
   · have a1 := List.isEmpty_iff.1 a0
     rcases str_cases B with b0 | ⟨b0, b1⟩ | ⟨b0, b1, b2⟩ | ⟨b0, b1, b2⟩
     all_goals
      go_wp2_with fail
      go_meet
      refine ⟨by rw [HF.out, first_yes HA.out a0], ?_, below_trans hb2 (below_drewN _ _)⟩
      rw [HG.out]
      first
       | exact second_1 HB.out b0
       | exact second_2 HB.out b1
       | exact second_3 HB.out b2
       | exact second_4 HB.out b0 b1 b2
   · have a1 : A.toList.isEmpty = false := by simpa using a0
     rcases str_cases B with b0 | ⟨b0, b1⟩ | ⟨b0, b1, b2⟩ | ⟨b0, b1, b2⟩
     all_goals
      go_wp2_with fail
      go_meet
      refine ⟨by rw [HF.out, first_no HA.out a1], ?_, below_trans hb2 (below_drewN _ _)⟩
      rw [HG.out]
      first
       | exact second_1 HB.out b0
       | exact second_2 HB.out b1
       | exact second_3 HB.out b2
       | exact second_4 HB.out b0 b1 b2
  | false =>
   have HT := hZ9 (HCASE.out.2 rfl)
   clear HCASE
   have HF : Hid (PhS.firstOf s.data.toList = s.data.toList) := hZ9 (by unfold PhS.firstOf; rw [if_neg HT.out.1])
   have HG : Hid (PhS.secondOf s.data.toList = [48]) := hZ9 (by unfold PhS.secondOf; rw [if_neg HT.out.1])
   go_wp2_with fail
   go_meet
   exact ⟨by rw [HF.out], by rw [HG.out], Below.refl _ _⟩
 case rest =>
  obtain ⟨rfl, rfl, hb⟩ := hcut
  have h1 := first_len s.data.toList
  have h2 := second_len s.data.toList
  clear HCASE
  have HP : Hid (PhS.parseP s.data.toList = if (PhS.readS (PhS.firstOf s.data.toList)).2 /\ (PhS.readS (PhS.secondOf s.data.toList)).2 /\ PhS.inR (PhS.readS (PhS.firstOf s.data.toList)).1 (PhS.readS (PhS.secondOf s.data.toList)).1 = true /\ PhS.text (PhS.readS (PhS.firstOf s.data.toList)).1 (PhS.readS (PhS.secondOf s.data.toList)).1 = s.data.toList
    then some ((PhS.readS (PhS.firstOf s.data.toList)).1, (PhS.readS (PhS.secondOf s.data.toList)).1) else none) := hZ9 rfl
  have hsl := Lib.size_eq s
  by_cases hbig : s.data.toList.length + 2 <= 281474976710656
  · have r1 := fun w hE => read_c ⟨(PhS.firstOf s.data.toList).toArray⟩ (Nat.le_trans h1 (by omega)) w hE
    have r2 := fun w hE => read_c ⟨(PhS.secondOf s.data.toList).toArray⟩ (Nat.le_trans h2 (by omega)) w hE
    unfold ReadRet at r1 r2
    have g1 := readS_le (PhS.firstOf s.data.toList)
    have g2 := readS_le (PhS.secondOf s.data.toList)
    simp only at r1 r2
    generalize PhS.readS (PhS.firstOf s.data.toList) = p1 at *
    generalize PhS.readS (PhS.secondOf s.data.toList) = p2 at *
    obtain ⟨n, o1⟩ := p1
    obtain ⟨m, o2⟩ := p2
    simp only at r1 r2 g1 g2 HP
    clear hsl h1 h2
    go_wp2_with fail
    refine (r1 _ (hE.below hb)).mono ?_
    rintro e w3 ⟨rfl, hb3⟩
    go_wp2_with fail
    refine (r2 _ ((hE.below hb).below hb3)).mono ?_
    rintro e w4 ⟨rfl, hb4⟩
    go_wp2_with fail
    have hb5 := below_trans hb (below_trans hb3 hb4)
    cases hin : PhS.inR n m with
    | true =>
     have HIN := hZ9 hin
     refine (print_yes n m hin _ (hE.below hb5)).mono ?_
     rintro e w5 ⟨rfl, hb6⟩
     clear hin r1 r2
     cases o1 with
     | false =>
      go_wp2_with fail
      go_ret2
      exact ⟨by rw [HP.out, if_neg (by simp)]; rfl, below_trans hb5 hb6⟩
     | true =>
      cases o2 with
      | false =>
       go_wp2_with fail
       go_ret2
       exact ⟨by rw [HP.out, if_neg (by simp)]; rfl, below_trans hb5 hb6⟩
      | true =>
       by_cases ht : (PhS.text n m == s.toList) = true
       · have HT : Hid (PhS.text n m = s.data.toList) := hZ9 (by rw [beq_iff_eq.1 ht, Lib.toList_data])
         go_wp2_with fail
         go_ret2
         exact ⟨by rw [HP.out, if_pos ⟨trivial, trivial, HIN.out, HT.out⟩]; rfl, below_trans hb5 hb6⟩
       · have HT : Hid (¬ PhS.text n m = s.data.toList) := hZ9 (by rw [<- Lib.toList_data]; intro hh; exact ht (beq_iff_eq.2 hh))
         have ht' : (PhS.text n m == s.toList) = false := by simpa using ht
         clear ht
         go_wp2_with fail
         go_ret2
         exact ⟨by rw [HP.out, if_neg (fun h => HT.out h.2.2.2)]; rfl, below_trans hb5 hb6⟩
    | false =>
     have HIN := hZ9 hin
     have hno : (okB (Fl.D n) && okB (Fl.D m)) = false := by
      unfold PhS.inR at hin
      have hin' := of_decide_eq_false hin
      by_cases h6 : n.natAbs <= 1000000
      · rw [okB_big (n := m) (by omega) (by omega), Bool.and_false]
      · rw [okB_big (n := n) (by omega) (by omega), Bool.false_and]
     have HN : Hid (PhS.parseP s.data.toList = none) := hZ9 (by rw [HP.out, if_neg (fun h => by have := h.2.2.1; rw [HIN.out] at this; cases this)])
     refine (print_no _ _ (wd_D (by omega)) (wd_D (by omega)) hno _).mono ?_
     rintro e w5 ⟨rfl, hb6⟩
     clear hin r1 r2 hno
     cases o1 with
     | false =>
      go_wp2_with fail
      go_ret2
      exact ⟨by rw [HN.out]; rfl, below_trans hb5 hb6⟩
     | true =>
      cases o2 with
      | false =>
       go_wp2_with fail
       go_ret2
       exact ⟨by rw [HN.out]; rfl, below_trans hb5 hb6⟩
      | true =>
       go_wp2_with fail
       go_ret2
       exact ⟨by rw [HN.out]; rfl, below_trans hb5 hb6⟩
  · exact absurd hs (by omega)
end
end Go.Proofs.YtjmfknfponjgkaaGreatDoor
