/- The walks of 'Lower', the program's and the document's. Conditions: as stated. -/
import Derived.Test.YtjmfknfponjgkaaGreatDoorJRuS
import Derived.Test.YtjmfknfponjgkaaGreatDoorJMem
set_option maxRecDepth 100000
namespace Go.Proofs.YtjmfknfponjgkaaGreatDoor
section
open Go.RowKit
theorem or_dec : ∀ n : Fin 26, bits BinOp.or IntKind.u8 ((n.val + 65 : Nat) : Int) 32 = ((n.val + 97 : Nat) : Int) := by decide
theorem or32 {c : UInt8} (h1 : 65 <= c.toNat) (h2 : c.toNat <= 90) : bits BinOp.or IntKind.u8 (c.toNat : Int) 32 = ((c.toNat + 32 : Nat) : Int) := by
 have h := or_dec ⟨c.toNat - 65, by omega⟩
 simp only at h
 rw [show c.toNat - 65 + 65 = c.toNat from by omega, show c.toNat - 65 + 97 = c.toNat + 32 from by omega] at h
 exact h
def LowRet (l : List UInt8) (w : World) (e : Ending) (w' : World) : Prop := e = .returned (.string ⟨(RuS.lower l).toArray⟩) /\ Below w.heap.size w w'
def LowLoop (s : ByteArray) (w : World) (i : Value) (wr : World) : Prop := ∃ k : Nat, k <= s.size /\ i = .int .i64 k /\ BytesIn wr w.heap.size (RuS.half s.data.toList k) /\ Below w.heap.size w wr
theorem lower_c (s : ByteArray) (hs : s.size <= 9223372036854775807) (w : World) : Calls Tryz.prog 75 #[.string s] w (LowRet s.data.toList w) := by
 have hconv := fun w => Lib.run_convert_string_bytes (P := Tryz.prog) w 9 61 5 s Tryz.underlying9 Tryz.underlying61 Tryz.underlying5
 have hcap : s.size <= grownCap w s.size 0 5 := grownCap_ge _ _ _ _
 have hb0 := BytesIn.conv w 5 s
 have hbw := Lib.bytesWorld_below w 5 s
 go_enter Tryz.func75, Tryz.ntmps75
 go_wp2_with fail
 clear hconv
 generalize grownCap w s.size 0 5 = cap at *
 generalize Lib.bytesWorld w 5 s = w0 at *
 go_loopw [10] (fun i wr => LowLoop s w i wr) (fun i _ => s.size - (intOf i).toNat)
 case atStart => exact ⟨0, Nat.zero_le _, rfl, by rw [RuS.half_zero]; exact hb0, hbw⟩
 case round =>
  obtain ⟨k, hk, rfl, hin, hbl⟩ := hrel
  clear hb0 hbw
  by_cases hlt : k < s.size
  · have hlt2 : k < (RuS.half s.data.toList k).length := by rw [RuS.half_length, <- Lib.size_eq]; exact hlt
    have hc := hin.cell hlt2
    have hf := hin.thaw hlt2
    have hlt3 : k < s.data.toList.length := by rw [<- Lib.size_eq]; exact hlt
    rw [RuS.half_at _ _ hlt3] at hc
    have HS := hZ9 (RuS.half_succ s.data.toList k hlt3)
    have HK := hZ9 (RuS.half_keep s.data.toList k hlt3)
    generalize s.data.toList[k] = c at *
    clear hlt2 hlt3
    by_cases h1 : 65 <= c.toNat
    · by_cases h2 : c.toNat <= 90
      · have HO := hZ9 (or32 h1 h2)
        have HC := hZ9 (RuS.lowC_toNat h1 h2)
        go_wp2_with fail
        go_roundw
        case rel =>
         refine ⟨k + 1, by omega, by go_num, ?_, hbl.setCell (Nat.le_refl _) _⟩
         rw [HS.out, HO.out, <- HC.out]
         exact hin.put _ _
        case measure => simp [intOf]; omega
      · have HC := hZ9 (RuS.lowC_no (c := c) (by omega))
        go_wp2_with fail
        go_roundw
        case rel => exact ⟨k + 1, by omega, by go_num, by rw [HK.out HC.out]; exact hin, hbl⟩
        case measure => simp [intOf]; omega
    · have HC := hZ9 (RuS.lowC_no (c := c) (by omega))
      go_wp2_with fail
      go_roundw
      case rel => exact ⟨k + 1, by omega, by go_num, by rw [HK.out HC.out]; exact hin, hbl⟩
      case measure => simp [intOf]; omega
  · have hall : s.data.toList.length <= k := by rw [<- Lib.size_eq]; omega
    rw [RuS.half_all _ hall] at hin
    have hback := hin.back (P := Tryz.prog) 61 9 5 s.size cap (by rw [RuS.lower_length, <- Lib.size_eq]) Tryz.underlying61 Tryz.underlying5 Tryz.underlying9
    clear hall
    go_wp2_with fail
    go_ret
    exact ⟨rfl, hbl⟩
theorem reflower_c (s : ByteArray) (hs : s.size <= 9223372036854775807) (w : World) : Calls Tryz.prog 82 #[.string s] w (LowRet s.data.toList w) := by
 have hconv := fun w => Lib.run_convert_string_bytes (P := Tryz.prog) w 9 61 5 s Tryz.underlying9 Tryz.underlying61 Tryz.underlying5
 have hcap : s.size <= grownCap w s.size 0 5 := grownCap_ge _ _ _ _
 have hb0 := BytesIn.conv w 5 s
 have hbw := Lib.bytesWorld_below w 5 s
 go_enter Tryz.func82, Tryz.ntmps82
 go_wp2_with fail
 clear hconv
 generalize grownCap w s.size 0 5 = cap at *
 generalize Lib.bytesWorld w 5 s = w0 at *
 go_loopw [9] (fun i wr => LowLoop s w i wr) (fun i _ => s.size - (intOf i).toNat)
 case atStart => exact ⟨0, Nat.zero_le _, rfl, by rw [RuS.half_zero]; exact hb0, hbw⟩
 case round =>
  obtain ⟨k, hk, rfl, hin, hbl⟩ := hrel
  clear hb0 hbw
  by_cases hlt : k < s.size
  · have hlt2 : k < (RuS.half s.data.toList k).length := by rw [RuS.half_length, <- Lib.size_eq]; exact hlt
    have hc := hin.cell hlt2
    have hf := hin.thaw hlt2
    have hlt3 : k < s.data.toList.length := by rw [<- Lib.size_eq]; exact hlt
    rw [RuS.half_at _ _ hlt3] at hc
    have HS := hZ9 (RuS.half_succ s.data.toList k hlt3)
    have HK := hZ9 (RuS.half_keep s.data.toList k hlt3)
    generalize s.data.toList[k] = c at *
    clear hlt2 hlt3
    by_cases h1 : 65 <= c.toNat
    · by_cases h2 : c.toNat <= 90
      · have HC := hZ9 (RuS.lowC_toNat h1 h2)
        go_wp2_with fail
        go_roundw
        case rel =>
         refine ⟨k + 1, by omega, by go_num, ?_, hbl.setCell (Nat.le_refl _) _⟩
         rw [HS.out, show ((c.toNat : Int) + 32) = ((RuS.lowC c).toNat : Int) from by rw [HC.out]; rfl]
         exact hin.put _ _
        case measure => simp [intOf]; omega
      · have HC := hZ9 (RuS.lowC_no (c := c) (by omega))
        go_wp2_with fail
        go_roundw
        case rel => exact ⟨k + 1, by omega, by go_num, by rw [HK.out HC.out]; exact hin, hbl⟩
        case measure => simp [intOf]; omega
    · have HC := hZ9 (RuS.lowC_no (c := c) (by omega))
      go_wp2_with fail
      go_roundw
      case rel => exact ⟨k + 1, by omega, by go_num, by rw [HK.out HC.out]; exact hin, hbl⟩
      case measure => simp [intOf]; omega
  · have hall : s.data.toList.length <= k := by rw [<- Lib.size_eq]; omega
    rw [RuS.half_all _ hall] at hin
    have hback := hin.back (P := Tryz.prog) 61 9 5 s.size cap (by rw [RuS.lower_length, <- Lib.size_eq]) Tryz.underlying61 Tryz.underlying5 Tryz.underlying9
    clear hall
    go_wp2_with fail
    go_ret
    exact ⟨rfl, hbl⟩
end
section
open Go.RowKit
theorem splitB_pieces (c : UInt8) (s : ByteArray) : (Lib.splitB ⟨#[c]⟩ 0 (Lib.countB s ⟨#[c]⟩) s).map Value.string = (RuS.pieces c s.data.toList).map strV := by
 rw [<- RuS.split_pieces]
 have h := Lib.splitB_data ⟨#[c]⟩ 0 (Lib.countB s ⟨#[c]⟩) s
 have e : Lib.split s.data.toList [c] = Lib.splitK [c] 0 (Lib.countB s ⟨#[c]⟩) s.data.toList := rfl
 rw [e]
 have h' : Lib.splitK [c] 0 (Lib.countB s ⟨#[c]⟩) s.data.toList = (Lib.splitB ⟨#[c]⟩ 0 (Lib.countB s ⟨#[c]⟩) s).map (·.data.toList) := h.symm
 rw [h', List.map_map]
 apply List.map_congr_left
 intro x _
 obtain ⟨⟨l⟩⟩ := x
 rfl
theorem splitStr (s : ByteArray) (c : UInt8) (hs : s.size < 4294967281) (w : World) (hE : Env w) :
  Calls Tryz.prog 74 #[.string s, .string ⟨#[c]⟩] w fun e w' => ∃ n : Nat, n = (RuS.pieces c s.data.toList).length /\ e = .returned (.slice (some ⟨w.heap.size, 0, none⟩) n n) /\
   w' = w.alloc (.cells ((RuS.pieces c s.data.toList).map strV).toArray 9) := by
 obtain ⟨m, hm⟩ := hE.maxLen
 refine (Tryz.strings_Split s ⟨#[c]⟩ m w hs hm (Nat.le_refl 1)).mono ?_
 rintro e w' ⟨rfl, rfl⟩
 have h := splitB_pieces c s
 have hl := congrArg List.length h
 rw [List.length_map, List.length_map, Lib.splitB_all ⟨#[c]⟩ (Nat.le_refl 1) 0 _ _ rfl] at hl
 exact ⟨_, rfl, by rw [hl], by rw [h]⟩
def WordsRet (l : List UInt8) (w : World) (e : Ending) (w' : World) : Prop := ∃ v, e = .returned v /\ StrsIn w' v (RuS.wordsL l) /\ Below w.heap.size w w'
def WordsLoop (ps : List (List UInt8)) (w0 : World) (v i : Value) (wr : World) : Prop :=
 ∃ k : Nat, k <= ps.length /\ i = .int .i64 k /\ Own wr w0.heap.size v ((ps.take k).filter (fun p => !p.isEmpty)) /\ Below w0.heap.size w0 wr
theorem filter_take_le (ps : List (List UInt8)) (k : Nat) : ((ps.take k).filter (fun p => !p.isEmpty)).length <= ps.length := by
 have h1 := List.length_filter_le (fun p : List UInt8 => !p.isEmpty) (ps.take k)
 have h2 : (ps.take k).length <= ps.length := by simp; omega
 omega
theorem filter_take_yes (ps : List (List UInt8)) (k : Nat) (h : k < ps.length) (hp : ps[k].isEmpty = false) : (ps.take (k + 1)).filter (fun p => !p.isEmpty) = (ps.take k).filter (fun p => !p.isEmpty) ++ [ps[k]] := by
 rw [List.take_succ_eq_append_getElem h, List.filter_append]; simp [hp]
theorem filter_take_no (ps : List (List UInt8)) (k : Nat) (h : k < ps.length) (hp : ps[k].isEmpty = true) : (ps.take (k + 1)).filter (fun p => !p.isEmpty) = (ps.take k).filter (fun p => !p.isEmpty) := by
 rw [List.take_succ_eq_append_getElem h, List.filter_append]; simp [hp]
theorem pieces_length (c : UInt8) : ∀ l : List UInt8, (RuS.pieces c l).length <= l.length + 1
 | [] => by simp [RuS.pieces]
 | b :: l => by
  have ih := pieces_length c l
  unfold RuS.pieces
  split
  · simp only [List.length_cons]; omega
  · obtain ⟨p, ps, hp⟩ := RuS.pieces_ne c l
    rw [hp] at ih ⊢
    simp only [List.length_cons] at ih ⊢; omega
theorem words_c (s : ByteArray) (hs : s.size <= 1000000) (w : World) (hE : Env w) : Calls Tryz.prog 126 #[.string s] w (WordsRet s.data.toList w) := by
 have hsp := splitStr s 32 (by omega) w hE
 have hpl := pieces_length 32 s.data.toList
 rw [<- Lib.size_eq] at hpl
 have HW : Hid (RuS.wordsL s.data.toList = (RuS.pieces 32 s.data.toList).filter (fun p => !p.isEmpty)) := hZ9 rfl
 generalize RuS.pieces 32 s.data.toList = ps at *
 have hm := Whole.made w 9 (ps.map strV).toArray
 go_enter Tryz.func126, Tryz.ntmps126
 go_wp2_with fail
 refine hsp.mono ?_
 rintro e w1 ⟨n, hn, rfl, rfl⟩
 have HN := hZ9 hn
 have hn1 : n <= 1000001 := by omega
 clear hn hpl hsp
 have hb0 : Below w.heap.size w (w.alloc (.cells (ps.map strV).toArray 9)) := grow1 w _
 generalize hw0 : (w.alloc (.cells (ps.map strV).toArray 9)) = w0 at *
 have hsz : w.heap.size < w0.heap.size := hm.lt
 clear hw0
 go_wp2_with fail
 go_loopw [3, 9] (fun v i wr => WordsLoop ps w0 v i wr) (fun _ i _ => n - (intOf i).toNat)
 case atStart => exact ⟨0, Nat.zero_le _, rfl, Own.empty _ _, Below.refl _ _⟩
 case round =>
  obtain ⟨k, hk, rfl, hown, hb⟩ := hrel
  by_cases hlt : k < n
  · have hlt2 : k < ps.length := by rw [<- HN.out]; exact hlt
    have hc : wr.cell? ⟨w.heap.size, k, none⟩ = some (strV ps[k]) := by
     rw [hb.cell (p := ⟨w.heap.size, k, none⟩) hsz, hm.cell k]; simp [hlt2]
    unfold strV at hc
    have HY := hZ9 (filter_take_yes ps k hlt2)
    have HNO := hZ9 (filter_take_no ps k hlt2)
    have hle := filter_take_le ps k
    rw [<- HN.out] at hle
    generalize ps[k] = p at *
    generalize (ps.take k).filter (fun p => !p.isEmpty) = acc at *
    clear hlt2
    cases hp : p.isEmpty with
    | true =>
     have HP := hZ9 hp
     go_wp2_with fail
     go_roundw
     case rel => exact ⟨k + 1, by rw [<- HN.out]; omega, by go_num, by rw [HNO.out HP.out]; exact hown, hb⟩
     case measure => simp [intOf]; omega
    | false =>
     have HP := hZ9 hp
     go_wp2_with (at_builtin; refine push_str (by rfl) _ _ (by rfl) w0.heap.size _ acc (by rfl) (hown.alloc _) wr.heap.size (by rfl) p ?c1 ?c2 ?c3 ?_)
     case c1 => simp [go_sem, strV]
     case c2 => omega
     case c3 => have := hb.size; simp; omega
     intro v' w2 hown2 hb2
     go_wp2_with fail
     go_roundw
     case rel => exact ⟨k + 1, by rw [<- HN.out]; omega, by go_num, by rw [HY.out HP.out]; exact hown2, (hb.alloc hb.size _).trans hb2⟩
     case measure => simp [intOf]; omega
  · have hkn : k = n := by rw [<- HN.out] at hk; omega
    have hall : ps.take k = ps := List.take_of_length_le (by rw [<- HN.out]; omega)
    rw [hall, <- HW.out] at hown
    clear hall
    go_wp2_with fail
    go_ret
    exact ⟨_, rfl, hown.strs, hb0.trans (hb.mono (Nat.le_of_lt hsz))⟩
end
section
open Go.RowKit
def TypeRet (l : List UInt8) (w : World) (e : Ending) (w' : World) : Prop := e = .returned (.tuple #[.string ⟨(RuS.typeOf l).1.toArray⟩, .int .i64 (RuS.typeOf l).2]) /\ Below w.heap.size w w'
theorem TypeRet.mk' {l : List UInt8} {w w' : World} {r : List UInt8 × Int} (h : RuS.typeOf l = r) (hb : Below w.heap.size w w') : TypeRet l w (.returned (.tuple #[.string ⟨r.1.toArray⟩, .int .i64 r.2])) w' := by
 unfold TypeRet; rw [h]; exact ⟨rfl, hb⟩
theorem typeOf_m {l m : List UInt8} {r : List UInt8 × Int} (hm : RuS.lower l = m) (h : RuS.typeM m = r) : RuS.typeOf l = r := by unfold RuS.typeOf; rw [hm]; exact h
theorem reftype_0 (s : ByteArray) (hs : s.size <= 9223372036854775807) (m : List UInt8) (hm : RuS.lower s.data.toList = m)  (h0 : (m == [111, 98, 106, 101, 99, 116, 99, 108, 97, 115, 115]) = true) (w : World) : Calls Tryz.prog 55 #[.string s] w (TypeRet s.data.toList w) := by
 have hl := fun w => reflower_c s hs w
 unfold LowRet at hl
 rw [hm] at hl
 have HR := hZ9 (typeOf_m hm (show RuS.typeM m = ([111, 98, 106, 101, 99, 116, 67, 108, 97, 115, 115], 1) from by rw [beq_iff_eq.1 h0]; decide +kernel))
 clear hm
 go_enter Tryz.func55, Tryz.ntmps55
 go_wp2_with fail
 refine (hl _).mono ?_; rintro e w1 ⟨rfl, hb1⟩
 go_wp2_with fail
 go_ret2
 exact TypeRet.mk' HR.out hb1
theorem reftype_1 (s : ByteArray) (hs : s.size <= 9223372036854775807) (m : List UInt8) (hm : RuS.lower s.data.toList = m) (h0 : (m == [111, 98, 106, 101, 99, 116, 99, 108, 97, 115, 115]) = false) (h1 : (m == [99, 110]) = true) (w : World) : Calls Tryz.prog 55 #[.string s] w (TypeRet s.data.toList w) := by
 have hl := fun w => reflower_c s hs w
 unfold LowRet at hl
 rw [hm] at hl
 have HR := hZ9 (typeOf_m hm (show RuS.typeM m = ([99, 110], 1) from by rw [beq_iff_eq.1 h1]; decide +kernel))
 have HM := hZ9 (beq_iff_eq.1 h1)
 clear hm
 go_enter Tryz.func55, Tryz.ntmps55
 go_wp2_with fail
 refine (hl _).mono ?_; rintro e w1 ⟨rfl, hb1⟩
 go_wp2_with fail
 refine (hl _).mono ?_; rintro e w2 ⟨rfl, hb2⟩
 go_wp2_with fail
 go_ret2
 have := TypeRet.mk' HR.out (below_trans hb1 hb2)
 rw [HM.out]
 exact this
theorem reftype_2 (s : ByteArray) (hs : s.size <= 9223372036854775807) (m : List UInt8) (hm : RuS.lower s.data.toList = m) (h0 : (m == [111, 98, 106, 101, 99, 116, 99, 108, 97, 115, 115]) = false) (h1 : (m == [99, 110]) = false) (h2 : (m == [111, 117]) = true) (w : World) : Calls Tryz.prog 55 #[.string s] w (TypeRet s.data.toList w) := by
 have hl := fun w => reflower_c s hs w
 unfold LowRet at hl
 rw [hm] at hl
 have HR := hZ9 (typeOf_m hm (show RuS.typeM m = ([111, 117], 1) from by rw [beq_iff_eq.1 h2]; decide +kernel))
 have HM := hZ9 (beq_iff_eq.1 h2)
 clear hm
 go_enter Tryz.func55, Tryz.ntmps55
 go_wp2_with fail
 refine (hl _).mono ?_; rintro e w1 ⟨rfl, hb1⟩
 go_wp2_with fail
 refine (hl _).mono ?_; rintro e w2 ⟨rfl, hb2⟩
 go_wp2_with fail
 go_ret2
 have := TypeRet.mk' HR.out (below_trans hb1 hb2)
 rw [HM.out]
 exact this
theorem reftype_3 (s : ByteArray) (hs : s.size <= 9223372036854775807) (m : List UInt8) (hm : RuS.lower s.data.toList = m) (h0 : (m == [111, 98, 106, 101, 99, 116, 99, 108, 97, 115, 115]) = false) (h1 : (m == [99, 110]) = false) (h2 : (m == [111, 117]) = false) (h3 : (m == [111]) = true) (w : World) : Calls Tryz.prog 55 #[.string s] w (TypeRet s.data.toList w) := by
 have hl := fun w => reflower_c s hs w
 unfold LowRet at hl
 rw [hm] at hl
 have HR := hZ9 (typeOf_m hm (show RuS.typeM m = ([111], 1) from by rw [beq_iff_eq.1 h3]; decide +kernel))
 have HM := hZ9 (beq_iff_eq.1 h3)
 clear hm
 go_enter Tryz.func55, Tryz.ntmps55
 go_wp2_with fail
 refine (hl _).mono ?_; rintro e w1 ⟨rfl, hb1⟩
 go_wp2_with fail
 refine (hl _).mono ?_; rintro e w2 ⟨rfl, hb2⟩
 go_wp2_with fail
 go_ret2
 have := TypeRet.mk' HR.out (below_trans hb1 hb2)
 rw [HM.out]
 exact this
theorem reftype_4 (s : ByteArray) (hs : s.size <= 9223372036854775807) (m : List UInt8) (hm : RuS.lower s.data.toList = m) (h0 : (m == [111, 98, 106, 101, 99, 116, 99, 108, 97, 115, 115]) = false) (h1 : (m == [99, 110]) = false) (h2 : (m == [111, 117]) = false) (h3 : (m == [111]) = false) (h4 : (m == [100, 99]) = true) (w : World) : Calls Tryz.prog 55 #[.string s] w (TypeRet s.data.toList w) := by
 have hl := fun w => reflower_c s hs w
 unfold LowRet at hl
 rw [hm] at hl
 have HR := hZ9 (typeOf_m hm (show RuS.typeM m = ([100, 99], 1) from by rw [beq_iff_eq.1 h4]; decide +kernel))
 have HM := hZ9 (beq_iff_eq.1 h4)
 clear hm
 go_enter Tryz.func55, Tryz.ntmps55
 go_wp2_with fail
 refine (hl _).mono ?_; rintro e w1 ⟨rfl, hb1⟩
 go_wp2_with fail
 refine (hl _).mono ?_; rintro e w2 ⟨rfl, hb2⟩
 go_wp2_with fail
 go_ret2
 have := TypeRet.mk' HR.out (below_trans hb1 hb2)
 rw [HM.out]
 exact this
theorem reftype_5 (s : ByteArray) (hs : s.size <= 9223372036854775807) (m : List UInt8) (hm : RuS.lower s.data.toList = m) (h0 : (m == [111, 98, 106, 101, 99, 116, 99, 108, 97, 115, 115]) = false) (h1 : (m == [99, 110]) = false) (h2 : (m == [111, 117]) = false) (h3 : (m == [111]) = false) (h4 : (m == [100, 99]) = false) (h5 : (m == [117, 105, 100]) = true) (w : World) : Calls Tryz.prog 55 #[.string s] w (TypeRet s.data.toList w) := by
 have hl := fun w => reflower_c s hs w
 unfold LowRet at hl
 rw [hm] at hl
 have HR := hZ9 (typeOf_m hm (show RuS.typeM m = ([117, 105, 100], 1) from by rw [beq_iff_eq.1 h5]; decide +kernel))
 have HM := hZ9 (beq_iff_eq.1 h5)
 clear hm
 go_enter Tryz.func55, Tryz.ntmps55
 go_wp2_with fail
 refine (hl _).mono ?_; rintro e w1 ⟨rfl, hb1⟩
 go_wp2_with fail
 refine (hl _).mono ?_; rintro e w2 ⟨rfl, hb2⟩
 go_wp2_with fail
 go_ret2
 have := TypeRet.mk' HR.out (below_trans hb1 hb2)
 rw [HM.out]
 exact this
theorem reftype_6 (s : ByteArray) (hs : s.size <= 9223372036854775807) (m : List UInt8) (hm : RuS.lower s.data.toList = m) (h0 : (m == [111, 98, 106, 101, 99, 116, 99, 108, 97, 115, 115]) = false) (h1 : (m == [99, 110]) = false) (h2 : (m == [111, 117]) = false) (h3 : (m == [111]) = false) (h4 : (m == [100, 99]) = false) (h5 : (m == [117, 105, 100]) = false) (h6 : (m == [100, 101, 115, 99, 114, 105, 112, 116, 105, 111, 110]) = true) (w : World) : Calls Tryz.prog 55 #[.string s] w (TypeRet s.data.toList w) := by
 have hl := fun w => reflower_c s hs w
 unfold LowRet at hl
 rw [hm] at hl
 have HR := hZ9 (typeOf_m hm (show RuS.typeM m = ([100, 101, 115, 99, 114, 105, 112, 116, 105, 111, 110], 1) from by rw [beq_iff_eq.1 h6]; decide +kernel))
 have HM := hZ9 (beq_iff_eq.1 h6)
 clear hm
 go_enter Tryz.func55, Tryz.ntmps55
 go_wp2_with fail
 refine (hl _).mono ?_; rintro e w1 ⟨rfl, hb1⟩
 go_wp2_with fail
 refine (hl _).mono ?_; rintro e w2 ⟨rfl, hb2⟩
 go_wp2_with fail
 go_ret2
 have := TypeRet.mk' HR.out (below_trans hb1 hb2)
 rw [HM.out]
 exact this
theorem reftype_7 (s : ByteArray) (hs : s.size <= 9223372036854775807) (m : List UInt8) (hm : RuS.lower s.data.toList = m) (h0 : (m == [111, 98, 106, 101, 99, 116, 99, 108, 97, 115, 115]) = false) (h1 : (m == [99, 110]) = false) (h2 : (m == [111, 117]) = false) (h3 : (m == [111]) = false) (h4 : (m == [100, 99]) = false) (h5 : (m == [117, 105, 100]) = false) (h6 : (m == [100, 101, 115, 99, 114, 105, 112, 116, 105, 111, 110]) = false) (h7 : (m == [109, 97, 105, 108]) = true) (w : World) : Calls Tryz.prog 55 #[.string s] w (TypeRet s.data.toList w) := by
 have hl := fun w => reflower_c s hs w
 unfold LowRet at hl
 rw [hm] at hl
 have HR := hZ9 (typeOf_m hm (show RuS.typeM m = ([109, 97, 105, 108], 1) from by rw [beq_iff_eq.1 h7]; decide +kernel))
 have HM := hZ9 (beq_iff_eq.1 h7)
 clear hm
 go_enter Tryz.func55, Tryz.ntmps55
 go_wp2_with fail
 refine (hl _).mono ?_; rintro e w1 ⟨rfl, hb1⟩
 go_wp2_with fail
 refine (hl _).mono ?_; rintro e w2 ⟨rfl, hb2⟩
 go_wp2_with fail
 go_ret2
 have := TypeRet.mk' HR.out (below_trans hb1 hb2)
 rw [HM.out]
 exact this
theorem reftype_8 (s : ByteArray) (hs : s.size <= 9223372036854775807) (m : List UInt8) (hm : RuS.lower s.data.toList = m) (h0 : (m == [111, 98, 106, 101, 99, 116, 99, 108, 97, 115, 115]) = false) (h1 : (m == [99, 110]) = false) (h2 : (m == [111, 117]) = false) (h3 : (m == [111]) = false) (h4 : (m == [100, 99]) = false) (h5 : (m == [117, 105, 100]) = false) (h6 : (m == [100, 101, 115, 99, 114, 105, 112, 116, 105, 111, 110]) = false) (h7 : (m == [109, 97, 105, 108]) = false) (h8 : (m == [117, 115, 101, 114, 112, 97, 115, 115, 119, 111, 114, 100]) = true) (w : World) : Calls Tryz.prog 55 #[.string s] w (TypeRet s.data.toList w) := by
 have hl := fun w => reflower_c s hs w
 unfold LowRet at hl
 rw [hm] at hl
 have HR := hZ9 (typeOf_m hm (show RuS.typeM m = ([117, 115, 101, 114, 80, 97, 115, 115, 119, 111, 114, 100], 2) from by rw [beq_iff_eq.1 h8]; decide +kernel))
 clear hm
 go_enter Tryz.func55, Tryz.ntmps55
 go_wp2_with fail
 refine (hl _).mono ?_; rintro e w1 ⟨rfl, hb1⟩
 go_wp2_with fail
 go_ret2
 exact TypeRet.mk' HR.out hb1
theorem reftype_9 (s : ByteArray) (hs : s.size <= 9223372036854775807) (m : List UInt8) (hm : RuS.lower s.data.toList = m) (h0 : (m == [111, 98, 106, 101, 99, 116, 99, 108, 97, 115, 115]) = false) (h1 : (m == [99, 110]) = false) (h2 : (m == [111, 117]) = false) (h3 : (m == [111]) = false) (h4 : (m == [100, 99]) = false) (h5 : (m == [117, 105, 100]) = false) (h6 : (m == [100, 101, 115, 99, 114, 105, 112, 116, 105, 111, 110]) = false) (h7 : (m == [109, 97, 105, 108]) = false) (h8 : (m == [117, 115, 101, 114, 112, 97, 115, 115, 119, 111, 114, 100]) = false) (h9 : (m == [114, 101, 102]) = true) (w : World) : Calls Tryz.prog 55 #[.string s] w (TypeRet s.data.toList w) := by
 have hl := fun w => reflower_c s hs w
 unfold LowRet at hl
 rw [hm] at hl
 have HR := hZ9 (typeOf_m hm (show RuS.typeM m = ([114, 101, 102], 2) from by rw [beq_iff_eq.1 h9]; decide +kernel))
 clear hm
 go_enter Tryz.func55, Tryz.ntmps55
 go_wp2_with fail
 refine (hl _).mono ?_; rintro e w1 ⟨rfl, hb1⟩
 go_wp2_with fail
 go_ret2
 exact TypeRet.mk' HR.out hb1
theorem reftype_10 (s : ByteArray) (hs : s.size <= 9223372036854775807) (m : List UInt8) (hm : RuS.lower s.data.toList = m) (h0 : (m == [111, 98, 106, 101, 99, 116, 99, 108, 97, 115, 115]) = false) (h1 : (m == [99, 110]) = false) (h2 : (m == [111, 117]) = false) (h3 : (m == [111]) = false) (h4 : (m == [100, 99]) = false) (h5 : (m == [117, 105, 100]) = false) (h6 : (m == [100, 101, 115, 99, 114, 105, 112, 116, 105, 111, 110]) = false) (h7 : (m == [109, 97, 105, 108]) = false) (h8 : (m == [117, 115, 101, 114, 112, 97, 115, 115, 119, 111, 114, 100]) = false) (h9 : (m == [114, 101, 102]) = false) (h10 : (m == [115, 101, 114, 105, 97, 108, 110, 117, 109, 98, 101, 114]) = true) (w : World) : Calls Tryz.prog 55 #[.string s] w (TypeRet s.data.toList w) := by
 have hl := fun w => reflower_c s hs w
 unfold LowRet at hl
 rw [hm] at hl
 have HR := hZ9 (typeOf_m hm (show RuS.typeM m = ([115, 101, 114, 105, 97, 108, 78, 117, 109, 98, 101, 114], 3) from by rw [beq_iff_eq.1 h10]; decide +kernel))
 clear hm
 go_enter Tryz.func55, Tryz.ntmps55
 go_wp2_with fail
 refine (hl _).mono ?_; rintro e w1 ⟨rfl, hb1⟩
 go_wp2_with fail
 go_ret2
 exact TypeRet.mk' HR.out hb1
theorem reftype_11 (s : ByteArray) (hs : s.size <= 9223372036854775807) (m : List UInt8) (hm : RuS.lower s.data.toList = m) (h0 : (m == [111, 98, 106, 101, 99, 116, 99, 108, 97, 115, 115]) = false) (h1 : (m == [99, 110]) = false) (h2 : (m == [111, 117]) = false) (h3 : (m == [111]) = false) (h4 : (m == [100, 99]) = false) (h5 : (m == [117, 105, 100]) = false) (h6 : (m == [100, 101, 115, 99, 114, 105, 112, 116, 105, 111, 110]) = false) (h7 : (m == [109, 97, 105, 108]) = false) (h8 : (m == [117, 115, 101, 114, 112, 97, 115, 115, 119, 111, 114, 100]) = false) (h9 : (m == [114, 101, 102]) = false) (h10 : (m == [115, 101, 114, 105, 97, 108, 110, 117, 109, 98, 101, 114]) = false) (h11 : (m == [112, 111, 115, 105, 116, 105, 111, 110]) = true) (w : World) : Calls Tryz.prog 55 #[.string s] w (TypeRet s.data.toList w) := by
 have hl := fun w => reflower_c s hs w
 unfold LowRet at hl
 rw [hm] at hl
 have HR := hZ9 (typeOf_m hm (show RuS.typeM m = ([112, 111, 115, 105, 116, 105, 111, 110], 4) from by rw [beq_iff_eq.1 h11]; decide +kernel))
 clear hm
 go_enter Tryz.func55, Tryz.ntmps55
 go_wp2_with fail
 refine (hl _).mono ?_; rintro e w1 ⟨rfl, hb1⟩
 go_wp2_with fail
 go_ret2
 exact TypeRet.mk' HR.out hb1
theorem reftype_12 (s : ByteArray) (hs : s.size <= 9223372036854775807) (m : List UInt8) (hm : RuS.lower s.data.toList = m) (h0 : (m == [111, 98, 106, 101, 99, 116, 99, 108, 97, 115, 115]) = false) (h1 : (m == [99, 110]) = false) (h2 : (m == [111, 117]) = false) (h3 : (m == [111]) = false) (h4 : (m == [100, 99]) = false) (h5 : (m == [117, 105, 100]) = false) (h6 : (m == [100, 101, 115, 99, 114, 105, 112, 116, 105, 111, 110]) = false) (h7 : (m == [109, 97, 105, 108]) = false) (h8 : (m == [117, 115, 101, 114, 112, 97, 115, 115, 119, 111, 114, 100]) = false) (h9 : (m == [114, 101, 102]) = false) (h10 : (m == [115, 101, 114, 105, 97, 108, 110, 117, 109, 98, 101, 114]) = false) (h11 : (m == [112, 111, 115, 105, 116, 105, 111, 110]) = false) (h12 : (m == [97, 108, 105, 97, 115, 101, 100, 111, 98, 106, 101, 99, 116, 110, 97, 109, 101]) = true) (w : World) : Calls Tryz.prog 55 #[.string s] w (TypeRet s.data.toList w) := by
 have hl := fun w => reflower_c s hs w
 unfold LowRet at hl
 rw [hm] at hl
 have HR := hZ9 (typeOf_m hm (show RuS.typeM m = ([97, 108, 105, 97, 115, 101, 100, 79, 98, 106, 101, 99, 116, 78, 97, 109, 101], 5) from by rw [beq_iff_eq.1 h12]; decide +kernel))
 clear hm
 go_enter Tryz.func55, Tryz.ntmps55
 go_wp2_with fail
 refine (hl _).mono ?_; rintro e w1 ⟨rfl, hb1⟩
 go_wp2_with fail
 go_ret2
 exact TypeRet.mk' HR.out hb1
theorem reftype_13 (s : ByteArray) (hs : s.size <= 9223372036854775807) (m : List UInt8) (hm : RuS.lower s.data.toList = m) (h0 : (m == [111, 98, 106, 101, 99, 116, 99, 108, 97, 115, 115]) = false) (h1 : (m == [99, 110]) = false) (h2 : (m == [111, 117]) = false) (h3 : (m == [111]) = false) (h4 : (m == [100, 99]) = false) (h5 : (m == [117, 105, 100]) = false) (h6 : (m == [100, 101, 115, 99, 114, 105, 112, 116, 105, 111, 110]) = false) (h7 : (m == [109, 97, 105, 108]) = false) (h8 : (m == [117, 115, 101, 114, 112, 97, 115, 115, 119, 111, 114, 100]) = false) (h9 : (m == [114, 101, 102]) = false) (h10 : (m == [115, 101, 114, 105, 97, 108, 110, 117, 109, 98, 101, 114]) = false) (h11 : (m == [112, 111, 115, 105, 116, 105, 111, 110]) = false) (h12 : (m == [97, 108, 105, 97, 115, 101, 100, 111, 98, 106, 101, 99, 116, 110, 97, 109, 101]) = false) (h13 : (m == [109, 101, 109, 98, 101, 114]) = true) (w : World) : Calls Tryz.prog 55 #[.string s] w (TypeRet s.data.toList w) := by
 have hl := fun w => reflower_c s hs w
 unfold LowRet at hl
 rw [hm] at hl
 have HR := hZ9 (typeOf_m hm (show RuS.typeM m = ([109, 101, 109, 98, 101, 114], 5) from by rw [beq_iff_eq.1 h13]; decide +kernel))
 clear hm
 go_enter Tryz.func55, Tryz.ntmps55
 go_wp2_with fail
 refine (hl _).mono ?_; rintro e w1 ⟨rfl, hb1⟩
 go_wp2_with fail
 go_ret2
 exact TypeRet.mk' HR.out hb1
theorem reftype_14 (s : ByteArray) (hs : s.size <= 9223372036854775807) (m : List UInt8) (hm : RuS.lower s.data.toList = m) (h0 : (m == [111, 98, 106, 101, 99, 116, 99, 108, 97, 115, 115]) = false) (h1 : (m == [99, 110]) = false) (h2 : (m == [111, 117]) = false) (h3 : (m == [111]) = false) (h4 : (m == [100, 99]) = false) (h5 : (m == [117, 105, 100]) = false) (h6 : (m == [100, 101, 115, 99, 114, 105, 112, 116, 105, 111, 110]) = false) (h7 : (m == [109, 97, 105, 108]) = false) (h8 : (m == [117, 115, 101, 114, 112, 97, 115, 115, 119, 111, 114, 100]) = false) (h9 : (m == [114, 101, 102]) = false) (h10 : (m == [115, 101, 114, 105, 97, 108, 110, 117, 109, 98, 101, 114]) = false) (h11 : (m == [112, 111, 115, 105, 116, 105, 111, 110]) = false) (h12 : (m == [97, 108, 105, 97, 115, 101, 100, 111, 98, 106, 101, 99, 116, 110, 97, 109, 101]) = false) (h13 : (m == [109, 101, 109, 98, 101, 114]) = false) (w : World) : Calls Tryz.prog 55 #[.string s] w (TypeRet s.data.toList w) := by
 have hl := fun w => reflower_c s hs w
 unfold LowRet at hl
 rw [hm] at hl
 have HR := hZ9 (typeOf_m hm (show RuS.typeM m = ([], 0) from by unfold RuS.typeM RuS.tab; simp only [List.find?, h0, h1, h2, h3, h4, h5, h6, h7, h8, h9, h10, h11, h12, h13]))
 clear hm
 go_enter Tryz.func55, Tryz.ntmps55
 go_wp2_with fail
 refine (hl _).mono ?_; rintro e w1 ⟨rfl, hb1⟩
 go_wp2_with fail
 go_ret2
 exact TypeRet.mk' HR.out hb1
theorem reftype_c (s : ByteArray) (hs : s.size <= 9223372036854775807) (w : World) : Calls Tryz.prog 55 #[.string s] w (TypeRet s.data.toList w) := by
 generalize hm : RuS.lower s.data.toList = m
 cases h0 : (m == [111, 98, 106, 101, 99, 116, 99, 108, 97, 115, 115]) with
 | true => exact reftype_0 s hs m hm h0 w
 | false =>
  cases h1 : (m == [99, 110]) with
  | true => exact reftype_1 s hs m hm h0 h1 w
  | false =>
   cases h2 : (m == [111, 117]) with
   | true => exact reftype_2 s hs m hm h0 h1 h2 w
   | false =>
    cases h3 : (m == [111]) with
    | true => exact reftype_3 s hs m hm h0 h1 h2 h3 w
    | false =>
     cases h4 : (m == [100, 99]) with
     | true => exact reftype_4 s hs m hm h0 h1 h2 h3 h4 w
     | false =>
      cases h5 : (m == [117, 105, 100]) with
      | true => exact reftype_5 s hs m hm h0 h1 h2 h3 h4 h5 w
      | false =>
       cases h6 : (m == [100, 101, 115, 99, 114, 105, 112, 116, 105, 111, 110]) with
       | true => exact reftype_6 s hs m hm h0 h1 h2 h3 h4 h5 h6 w
       | false =>
        cases h7 : (m == [109, 97, 105, 108]) with
        | true => exact reftype_7 s hs m hm h0 h1 h2 h3 h4 h5 h6 h7 w
        | false =>
         cases h8 : (m == [117, 115, 101, 114, 112, 97, 115, 115, 119, 111, 114, 100]) with
         | true => exact reftype_8 s hs m hm h0 h1 h2 h3 h4 h5 h6 h7 h8 w
         | false =>
          cases h9 : (m == [114, 101, 102]) with
          | true => exact reftype_9 s hs m hm h0 h1 h2 h3 h4 h5 h6 h7 h8 h9 w
          | false =>
           cases h10 : (m == [115, 101, 114, 105, 97, 108, 110, 117, 109, 98, 101, 114]) with
           | true => exact reftype_10 s hs m hm h0 h1 h2 h3 h4 h5 h6 h7 h8 h9 h10 w
           | false =>
            cases h11 : (m == [112, 111, 115, 105, 116, 105, 111, 110]) with
            | true => exact reftype_11 s hs m hm h0 h1 h2 h3 h4 h5 h6 h7 h8 h9 h10 h11 w
            | false =>
             cases h12 : (m == [97, 108, 105, 97, 115, 101, 100, 111, 98, 106, 101, 99, 116, 110, 97, 109, 101]) with
             | true => exact reftype_12 s hs m hm h0 h1 h2 h3 h4 h5 h6 h7 h8 h9 h10 h11 h12 w
             | false =>
              cases h13 : (m == [109, 101, 109, 98, 101, 114]) with
              | true => exact reftype_13 s hs m hm h0 h1 h2 h3 h4 h5 h6 h7 h8 h9 h10 h11 h12 h13 w
              | false =>
               exact reftype_14 s hs m hm h0 h1 h2 h3 h4 h5 h6 h7 h8 h9 h10 h11 h12 h13 w
end
section
open Go.RowKit
def rowVals (L : List (List UInt8)) : Array Value := (L.map strV).toArray
def TypeTab (w : World) (g : Nat) (wr : World) : Prop :=
 Below w.heap.size w wr /\ (∀ k, 1 <= k -> k < 6 -> Whole wr (g + (k - 1)) 9 (rowVals (RuS.tabRow k))) /\
 Whole wr (g + 5) 22 #[.slice none 0 0, .slice (some ⟨g, 0, none⟩) 8 8, .slice (some ⟨g + 1, 0, none⟩) 2 2, .slice (some ⟨g + 2, 0, none⟩) 1 1, .slice (some ⟨g + 3, 0, none⟩) 1 1, .slice (some ⟨g + 4, 0, none⟩) 2 2]
theorem TypeTab.call {w : World} {g : Nat} {wr w' : World} (h : TypeTab w g wr) (hb : Below wr.heap.size wr w') : TypeTab w g w' :=
 ⟨h.1.trans (hb.mono h.1.size), fun k h1 h2 => (h.2.1 k h1 h2).call hb, h.2.2.call hb⟩
theorem TypeTab.made (w : World) : TypeTab w w.heap.size ((((((w.alloc (Obj.cells (rowVals (RuS.tabRow 1)) 9)).alloc (Obj.cells (rowVals (RuS.tabRow 2)) 9)).alloc (Obj.cells (rowVals (RuS.tabRow 3)) 9)).alloc
  (Obj.cells (rowVals (RuS.tabRow 4)) 9)).alloc (Obj.cells (rowVals (RuS.tabRow 5)) 9)).alloc
  (Obj.cells #[.slice none 0 0, .slice (some ⟨w.heap.size, 0, none⟩) 8 8, .slice (some ⟨w.heap.size + 1, 0, none⟩) 2 2, .slice (some ⟨w.heap.size + 1 + 1, 0, none⟩) 1 1, .slice (some ⟨w.heap.size + 1 + 1 + 1, 0, none⟩) 1 1, .slice (some ⟨w.heap.size + 1 + 1 + 1 + 1, 0, none⟩) 2 2] 22)) := by
 have m1 := Whole.made w 9 (rowVals (RuS.tabRow 1))
 have m2 := Whole.made (w.alloc (Obj.cells (rowVals (RuS.tabRow 1)) 9)) 9 (rowVals (RuS.tabRow 2))
 have m3 := Whole.made ((w.alloc (Obj.cells (rowVals (RuS.tabRow 1)) 9)).alloc (Obj.cells (rowVals (RuS.tabRow 2)) 9)) 9 (rowVals (RuS.tabRow 3))
 have m4 := Whole.made (((w.alloc (Obj.cells (rowVals (RuS.tabRow 1)) 9)).alloc (Obj.cells (rowVals (RuS.tabRow 2)) 9)).alloc (Obj.cells (rowVals (RuS.tabRow 3)) 9)) 9 (rowVals (RuS.tabRow 4))
 have m5 := Whole.made ((((w.alloc (Obj.cells (rowVals (RuS.tabRow 1)) 9)).alloc (Obj.cells (rowVals (RuS.tabRow 2)) 9)).alloc (Obj.cells (rowVals (RuS.tabRow 3)) 9)).alloc (Obj.cells (rowVals (RuS.tabRow 4)) 9)) 9 (rowVals (RuS.tabRow 5))
 have m6 := Whole.made (((((w.alloc (Obj.cells (rowVals (RuS.tabRow 1)) 9)).alloc (Obj.cells (rowVals (RuS.tabRow 2)) 9)).alloc (Obj.cells (rowVals (RuS.tabRow 3)) 9)).alloc (Obj.cells (rowVals (RuS.tabRow 4)) 9)).alloc (Obj.cells (rowVals (RuS.tabRow 5)) 9)) 22
  #[.slice none 0 0, .slice (some ⟨w.heap.size, 0, none⟩) 8 8, .slice (some ⟨w.heap.size + 1, 0, none⟩) 2 2, .slice (some ⟨w.heap.size + 1 + 1, 0, none⟩) 1 1, .slice (some ⟨w.heap.size + 1 + 1 + 1, 0, none⟩) 1 1, .slice (some ⟨w.heap.size + 1 + 1 + 1 + 1, 0, none⟩) 2 2]
 simp only [World.size_alloc] at m2 m3 m4 m5 m6
 refine ⟨below_alloc (below_alloc (below_alloc (below_alloc (below_alloc (below_alloc (Below.refl _ _) _) _) _) _) _) _, fun k h1 h2 => ?_, m6⟩
 have hk : k = 1 \/ k = 2 \/ k = 3 \/ k = 4 \/ k = 5 := by omega
 rcases hk with rfl | rfl | rfl | rfl | rfl
 · exact ((((m1.alloc _).alloc _).alloc _).alloc _).alloc _
 · exact (((m2.alloc _).alloc _).alloc _).alloc _
 · exact ((m3.alloc _).alloc _).alloc _
 · exact (m4.alloc _).alloc _
 · exact m5.alloc _
theorem TypeTab.nought {w : World} {g : Nat} {wr : World} (h : TypeTab w g wr) : wr.cell? ⟨g + 5, 0, none⟩ = some (.slice none 0 0) := h.2.2.cell 0
theorem TypeTab.hdr {w : World} {g : Nat} {wr : World} (h : TypeTab w g wr) {k : Nat} (h1 : 1 <= k) (h2 : k < 6) :
  wr.cell? ⟨g + 5, k, none⟩ = some (.slice (some ⟨g + (k - 1), 0, none⟩) (RuS.tabRow k).length (RuS.tabRow k).length) := by
 have hk : k = 1 \/ k = 2 \/ k = 3 \/ k = 4 \/ k = 5 := by omega
 rcases hk with rfl | rfl | rfl | rfl | rfl
 · exact h.2.2.cell 1
 · exact h.2.2.cell 2
 · exact h.2.2.cell 3
 · exact h.2.2.cell 4
 · exact h.2.2.cell 5
theorem TypeTab.at {w : World} {g : Nat} {wr : World} (h : TypeTab w g wr) {k j : Nat} (h1 : 1 <= k) (h2 : k < 6) (hj : j < (RuS.tabRow k).length) :
  wr.cell? ⟨g + (k - 1), j, none⟩ = some (.string ⟨((RuS.tabRow k)[j]).toArray⟩) := by
 rw [(h.2.1 k h1 h2).cell j]
 simp [rowVals, strV, hj]
def NoneYet (m : List UInt8) (k : Nat) : Prop := ∀ i, i < k -> ∀ t ∈ RuS.tabRow i, ¬ RuS.lower t = m
def NoneIn (m : List UInt8) (k j : Nat) : Prop := ∀ t ∈ (RuS.tabRow k).take j, ¬ RuS.lower t = m
theorem NoneYet.succ {m : List UInt8} {k : Nat} (h : NoneYet m k) (h2 : NoneIn m k (RuS.tabRow k).length) : NoneYet m (k + 1) := by
 intro i hi t ht
 by_cases he : i = k
 · subst he; rw [NoneIn, List.take_length] at h2; exact h2 t ht
 · exact h i (by omega) t ht
theorem NoneIn.succ {m : List UInt8} {k j : Nat} (h : NoneIn m k j) (hj : j < (RuS.tabRow k).length) (hn : ¬ RuS.lower (RuS.tabRow k)[j] = m) : NoneIn m k (j + 1) := by
 intro t ht
 rw [List.take_succ_eq_append_getElem hj, List.mem_append] at ht
 rcases ht with ht | ht
 · exact h t ht
 · rw [List.mem_singleton] at ht; subst ht; exact hn
theorem NoneIn.zero (m : List UInt8) (k : Nat) : NoneIn m k 0 := by intro t ht; simp at ht
theorem row_small : ∀ k : Fin 6, (RuS.tabRow k.val).length <= 8 /\ ∀ t ∈ RuS.tabRow k.val, t.length <= 17 := by decide +kernel
def OuterT (w : World) (g : Nat) (m : List UInt8) (v : Value) (wr : World) : Prop := ∃ k : Nat, k <= 6 /\ v = .int .i64 k /\ NoneYet m k /\ TypeTab w g wr
def InnerT (w : World) (g : Nat) (m : List UInt8) (k : Nat) (v : Value) (wr : World) : Prop := ∃ j : Nat, j <= (RuS.tabRow k).length /\ v = .int .i64 j /\ NoneIn m k j /\ TypeTab w g wr
theorem type_c (s : ByteArray) (hs : s.size <= 9223372036854775807) (w : World) : Calls Tryz.prog 52 #[.string s] w (TypeRet s.data.toList w) := by
 generalize hm : RuS.lower s.data.toList = m
 have HM := hZ9 hm
 have hl := fun w => lower_c s hs w
 unfold LowRet at hl
 rw [hm] at hl
 clear hm
 go_enter Tryz.func52, Tryz.ntmps52
 go_wp2_with fail
 go_loopw [15] (fun v wr => OuterT w w.heap.size m v wr) (fun v _ => 6 - (intOf v).toNat)
 case atStart => exact ⟨0, by omega, rfl, fun i hi => absurd hi (Nat.not_lt_zero _), TypeTab.made w⟩
 case round =>
  obtain ⟨k, hk, rfl, hn, ht⟩ := hrel
  by_cases hlt : k < 6
  · by_cases h0 : k = 0
    · subst h0
      have hc := ht.nought
      go_wp2_with fail
      refine wp_loop_rounds 1 ?_
      rw [rounds_succ]
      go_wp2_with fail
      go_roundw
      case rel => exact ⟨1, by omega, rfl, hn.succ (by intro t ht; cases ht), ht⟩
      case measure => simp [intOf]
    · have hk1 : 1 <= k := by omega
      have hc := ht.hdr hk1 hlt
      have hsm := (row_small ⟨k, hlt⟩).1
      simp only at hsm
      generalize hnn : (RuS.tabRow k).length = n at *
      have HN := hZ9 hnn
      clear hnn
      have hkd : decide ((k : Int) < 6) = true := decide_eq_true (by omega)
      go_wp2_with fail
      obtain ⟨wo, rfl⟩ : ∃ wo : World, wo = wr := ⟨_, rfl⟩
      go_loopw [22] (fun v wr => InnerT w w.heap.size m k v wr) (fun v _ => n - (intOf v).toNat)
      case atStart => exact ⟨0, by omega, rfl, NoneIn.zero _ _, ht⟩
      case round =>
       obtain ⟨j, hj, rfl, hni, ht2⟩ := hrel
       by_cases hj2 : j < n
       · have hj3 : j < (RuS.tabRow k).length := by rw [HN.out]; exact hj2
         have hcj := ht2.at hk1 hlt hj3
         have hin := List.getElem_mem hj3
         have hst := (row_small ⟨k, hlt⟩).2 _ hin
         have HSUC := hZ9 (fun h => hni.succ hj3 h)
         have HIT := hZ9 (fun h => RuS.typeM_hit (m := m) hlt hin h)
         clear hin
         generalize (RuS.tabRow k)[j] = t at *
         have hlt2 := fun w => lower_c ⟨t.toArray⟩ (by show t.length <= _; omega) w
         unfold LowRet at hlt2
         clear hc hj3
         cases hq : (RuS.lower t == m) with
         | true =>
          have HR := hZ9 (typeOf_m HM.out (HIT.out (beq_iff_eq.1 hq)))
          go_wp2_with fail
          refine (hlt2 _).mono ?_; rintro e w1 ⟨rfl, hb1⟩
          go_wp2_with fail
          refine (hl _).mono ?_; rintro e w2 ⟨rfl, hb2⟩
          go_wp2_with fail
          go_ret2
          exact TypeRet.mk' HR.out ((ht2.call hb1).call hb2).1
         | false =>
          have HQ := hZ9 (beq_eq_false_iff_ne.1 hq)
          go_wp2_with fail
          refine (hlt2 _).mono ?_; rintro e w1 ⟨rfl, hb1⟩
          go_wp2_with fail
          refine (hl _).mono ?_; rintro e w2 ⟨rfl, hb2⟩
          go_wp2_with fail
          go_roundw
          case rel => exact ⟨j + 1, by rw [HN.out]; omega, by go_num, HSUC.out HQ.out, (ht2.call hb1).call hb2⟩
          case measure => simp [intOf]; omega
       · have hjn : j = n := by rw [HN.out] at hj; omega
         subst hjn
         go_wp2_with fail
         go_roundw
         case rel => exact ⟨k + 1, by omega, by go_num, hn.succ (by rw [HN.out]; exact hni), ht2⟩
         case measure => simp [intOf]; omega
  · have hk6 : k = 6 := by omega
    subst hk6
    have HR := hZ9 (typeOf_m HM.out (RuS.typeM_none hn))
    go_wp2_with fail
    go_ret2
    exact TypeRet.mk' HR.out ht.1
end
end Go.Proofs.YtjmfknfponjgkaaGreatDoor
