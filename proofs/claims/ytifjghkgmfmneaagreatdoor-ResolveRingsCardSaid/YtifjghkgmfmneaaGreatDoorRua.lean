/- The walks of 'Lower', the program's and the document's. No condition but that a text's length is a machine's. The walk of the program's 'words': the pieces between blanks. Condition: the text has at most 1000000 bytes; the library's variables are laid. -/
import Derived.Test.YtifjghkgmfmneaaGreatDoorRuS
import Derived.Test.YtifjghkgmfmneaaGreatDoorMem
namespace Go.Proofs.YtifjghkgmfmneaaGreatDoor
open Go.RowKit

theorem or_dec : ∀ n : Fin 26, bits BinOp.or IntKind.u8 ((n.val + 65 : Nat) : Int) 32 = ((n.val + 97 : Nat) : Int) := by decide
theorem or32 {c : UInt8} (h1 : 65 ≤ c.toNat) (h2 : c.toNat ≤ 90) : bits BinOp.or IntKind.u8 (c.toNat : Int) 32 = ((c.toNat + 32 : Nat) : Int) := by
  have h := or_dec ⟨c.toNat - 65, by omega⟩
  simp only at h
  rw [show c.toNat - 65 + 65 = c.toNat from by omega, show c.toNat - 65 + 97 = c.toNat + 32 from by omega] at h
  exact h

def LowRet (l : List UInt8) (w : World) (e : Ending) (w' : World) : Prop := e = .returned (.string ⟨(RuS.lower l).toArray⟩) ∧ Below w.heap.size w w'
def LowLoop (s : ByteArray) (w : World) (i : Value) (wr : World) : Prop := ∃ k : Nat, k ≤ s.size ∧ i = .int .i64 k ∧ BytesIn wr w.heap.size (RuS.half s.data.toList k) ∧ Below w.heap.size w wr

set_option maxRecDepth 100000 in
theorem lower_c (s : ByteArray) (hs : s.size ≤ 9223372036854775807) (w : World) : Calls Tryz.prog 138 #[.string s] w (LowRet s.data.toList w) := by
  have hconv := fun w => Lib.run_convert_string_bytes (P := Tryz.prog) w 9 125 5 s Tryz.underlying9 Tryz.underlying125 Tryz.underlying5
  have hcap : s.size ≤ grownCap w s.size 0 5 := grownCap_ge _ _ _ _
  have hb0 := BytesIn.conv w 5 s
  have hbw := Lib.bytesWorld_below w 5 s
  go_enter Tryz.func138, Tryz.ntmps138
  go_wp2_with fail
  clear hconv
  generalize grownCap w s.size 0 5 = cap at *
  generalize Lib.bytesWorld w 5 s = w0 at *
  go_loopw [10] (fun i wr => LowLoop s w i wr) (fun i _ => s.size - (intOf i).toNat)
  case atStart => exact ⟨0, Nat.zero_le _, rfl, by rw [RuS.half_zero]; exact hb0, hbw⟩
  case round =>
    obtain ⟨k, hk, rfl, hin, hbl⟩ := hrel
    clear hb0 hbw
    by_cases hlt : k < s.size
    · have hlt2 : k < (RuS.half s.data.toList k).length := by rw [RuS.half_length, ← Lib.size_eq]; exact hlt
      have hc := hin.cell hlt2
      have hf := hin.thaw hlt2
      have hlt3 : k < s.data.toList.length := by rw [← Lib.size_eq]; exact hlt
      rw [RuS.half_at _ _ hlt3] at hc
      have HS := Lib.hid (RuS.half_succ s.data.toList k hlt3)
      have HK := Lib.hid (RuS.half_keep s.data.toList k hlt3)
      generalize s.data.toList[k] = c at *
      clear hlt2 hlt3
      by_cases h1 : 65 ≤ c.toNat
      · by_cases h2 : c.toNat ≤ 90
        · have HO := Lib.hid (or32 h1 h2)
          have HC := Lib.hid (RuS.lowC_toNat h1 h2)
          go_wp2_with fail
          go_roundw
          case rel =>
            refine ⟨k + 1, by omega, by go_num, ?_, hbl.setCell (Nat.le_refl _) _⟩
            rw [HS.out, HO.out, ← HC.out]
            exact hin.put _ _
          case measure => simp [intOf]; omega
        · have HC := Lib.hid (RuS.lowC_no (c := c) (by omega))
          go_wp2_with fail
          go_roundw
          case rel => exact ⟨k + 1, by omega, by go_num, by rw [HK.out HC.out]; exact hin, hbl⟩
          case measure => simp [intOf]; omega
      · have HC := Lib.hid (RuS.lowC_no (c := c) (by omega))
        go_wp2_with fail
        go_roundw
        case rel => exact ⟨k + 1, by omega, by go_num, by rw [HK.out HC.out]; exact hin, hbl⟩
        case measure => simp [intOf]; omega
    · have hall : s.data.toList.length ≤ k := by rw [← Lib.size_eq]; omega
      rw [RuS.half_all _ hall] at hin
      have hback := hin.back (P := Tryz.prog) 125 9 5 s.size cap (by rw [RuS.lower_length, ← Lib.size_eq]) Tryz.underlying125 Tryz.underlying5 Tryz.underlying9
      clear hall
      go_wp2_with fail
      go_ret
      exact ⟨rfl, hbl⟩

set_option maxRecDepth 100000 in
theorem reflower_c (s : ByteArray) (hs : s.size ≤ 9223372036854775807) (w : World) : Calls Tryz.prog 135 #[.string s] w (LowRet s.data.toList w) := by
  have hconv := fun w => Lib.run_convert_string_bytes (P := Tryz.prog) w 9 125 5 s Tryz.underlying9 Tryz.underlying125 Tryz.underlying5
  have hcap : s.size ≤ grownCap w s.size 0 5 := grownCap_ge _ _ _ _
  have hb0 := BytesIn.conv w 5 s
  have hbw := Lib.bytesWorld_below w 5 s
  go_enter Tryz.func135, Tryz.ntmps135
  go_wp2_with fail
  clear hconv
  generalize grownCap w s.size 0 5 = cap at *
  generalize Lib.bytesWorld w 5 s = w0 at *
  go_loopw [9] (fun i wr => LowLoop s w i wr) (fun i _ => s.size - (intOf i).toNat)
  case atStart => exact ⟨0, Nat.zero_le _, rfl, by rw [RuS.half_zero]; exact hb0, hbw⟩
  case round =>
    obtain ⟨k, hk, rfl, hin, hbl⟩ := hrel
    clear hb0 hbw
    by_cases hlt : k < s.size
    · have hlt2 : k < (RuS.half s.data.toList k).length := by rw [RuS.half_length, ← Lib.size_eq]; exact hlt
      have hc := hin.cell hlt2
      have hf := hin.thaw hlt2
      have hlt3 : k < s.data.toList.length := by rw [← Lib.size_eq]; exact hlt
      rw [RuS.half_at _ _ hlt3] at hc
      have HS := Lib.hid (RuS.half_succ s.data.toList k hlt3)
      have HK := Lib.hid (RuS.half_keep s.data.toList k hlt3)
      generalize s.data.toList[k] = c at *
      clear hlt2 hlt3
      by_cases h1 : 65 ≤ c.toNat
      · by_cases h2 : c.toNat ≤ 90
        · have HC := Lib.hid (RuS.lowC_toNat h1 h2)
          go_wp2_with fail
          go_roundw
          case rel =>
            refine ⟨k + 1, by omega, by go_num, ?_, hbl.setCell (Nat.le_refl _) _⟩
            rw [HS.out, show ((c.toNat : Int) + 32) = ((RuS.lowC c).toNat : Int) from by rw [HC.out]; rfl]
            exact hin.put _ _
          case measure => simp [intOf]; omega
        · have HC := Lib.hid (RuS.lowC_no (c := c) (by omega))
          go_wp2_with fail
          go_roundw
          case rel => exact ⟨k + 1, by omega, by go_num, by rw [HK.out HC.out]; exact hin, hbl⟩
          case measure => simp [intOf]; omega
      · have HC := Lib.hid (RuS.lowC_no (c := c) (by omega))
        go_wp2_with fail
        go_roundw
        case rel => exact ⟨k + 1, by omega, by go_num, by rw [HK.out HC.out]; exact hin, hbl⟩
        case measure => simp [intOf]; omega
    · have hall : s.data.toList.length ≤ k := by rw [← Lib.size_eq]; omega
      rw [RuS.half_all _ hall] at hin
      have hback := hin.back (P := Tryz.prog) 125 9 5 s.size cap (by rw [RuS.lower_length, ← Lib.size_eq]) Tryz.underlying125 Tryz.underlying5 Tryz.underlying9
      clear hall
      go_wp2_with fail
      go_ret
      exact ⟨rfl, hbl⟩
end Go.Proofs.YtifjghkgmfmneaaGreatDoor
namespace Go.Proofs.YtifjghkgmfmneaaGreatDoor
open Go.RowKit

theorem splitB_pieces (c : UInt8) (s : ByteArray) : (Lib.splitB ⟨#[c]⟩ 0 (Lib.countB s ⟨#[c]⟩) s).map Value.string = (RuS.pieces c s.data.toList).map strV := by
  rw [← RuS.split_pieces]
  have h := Lib.splitB_data ⟨#[c]⟩ 0 (Lib.countB s ⟨#[c]⟩) s
  have e : Lib.split s.data.toList [c] = Lib.splitK [c] 0 (Lib.countB s ⟨#[c]⟩) s.data.toList := rfl
  rw [e]
  have h' : Lib.splitK [c] 0 (Lib.countB s ⟨#[c]⟩) s.data.toList = (Lib.splitB ⟨#[c]⟩ 0 (Lib.countB s ⟨#[c]⟩) s).map (·.data.toList) := h.symm
  rw [h', List.map_map]
  apply List.map_congr_left
  intro x _
  obtain ⟨⟨l⟩⟩ := x
  rfl

/-- strings.Split at one byte -/
theorem splitStr (s : ByteArray) (c : UInt8) (hs : s.size < 4294967281) (w : World) (hE : Env w) :
    Calls Tryz.prog 240 #[.string s, .string ⟨#[c]⟩] w fun e w' => ∃ n : Nat, n = (RuS.pieces c s.data.toList).length ∧ e = .returned (.slice (some ⟨w.heap.size, 0, none⟩) n n) ∧
      w' = w.alloc (.cells ((RuS.pieces c s.data.toList).map strV).toArray 9) := by
  obtain ⟨m, hm⟩ := hE.maxLen
  refine (Tryz.strings_Split s ⟨#[c]⟩ m w hs hm (Nat.le_refl 1)).mono ?_
  rintro e w' ⟨rfl, rfl⟩
  have h := splitB_pieces c s
  have hl := congrArg List.length h
  rw [List.length_map, List.length_map, Lib.splitB_all ⟨#[c]⟩ (Nat.le_refl 1) 0 _ _ rfl] at hl
  exact ⟨_, rfl, by rw [hl], by rw [h]⟩

def WordsRet (l : List UInt8) (w : World) (e : Ending) (w' : World) : Prop := ∃ v, e = .returned v ∧ StrsIn w' v (RuS.wordsL l) ∧ Below w.heap.size w w'
def WordsLoop (ps : List (List UInt8)) (w0 : World) (v i : Value) (wr : World) : Prop :=
  ∃ k : Nat, k ≤ ps.length ∧ i = .int .i64 k ∧ Own wr w0.heap.size v ((ps.take k).filter (fun p => !p.isEmpty)) ∧ Below w0.heap.size w0 wr
theorem filter_take_le (ps : List (List UInt8)) (k : Nat) : ((ps.take k).filter (fun p => !p.isEmpty)).length ≤ ps.length := by
  have h1 := List.length_filter_le (fun p : List UInt8 => !p.isEmpty) (ps.take k)
  have h2 : (ps.take k).length ≤ ps.length := by simp; omega
  omega
theorem filter_take_yes (ps : List (List UInt8)) (k : Nat) (h : k < ps.length) (hp : ps[k].isEmpty = false) : (ps.take (k + 1)).filter (fun p => !p.isEmpty) = (ps.take k).filter (fun p => !p.isEmpty) ++ [ps[k]] := by
  rw [List.take_succ_eq_append_getElem h, List.filter_append]; simp [hp]
theorem filter_take_no (ps : List (List UInt8)) (k : Nat) (h : k < ps.length) (hp : ps[k].isEmpty = true) : (ps.take (k + 1)).filter (fun p => !p.isEmpty) = (ps.take k).filter (fun p => !p.isEmpty) := by
  rw [List.take_succ_eq_append_getElem h, List.filter_append]; simp [hp]
theorem pieces_length (c : UInt8) : ∀ l : List UInt8, (RuS.pieces c l).length ≤ l.length + 1
  | [] => by simp [RuS.pieces]
  | b :: l => by
    have ih := pieces_length c l
    unfold RuS.pieces
    split
    · simp only [List.length_cons]; omega
    · obtain ⟨p, ps, hp⟩ := RuS.pieces_ne c l
      rw [hp] at ih ⊢
      simp only [List.length_cons] at ih ⊢; omega

set_option maxRecDepth 100000 in
theorem words_c (s : ByteArray) (hs : s.size ≤ 1000000) (w : World) (hE : Env w) : Calls Tryz.prog 246 #[.string s] w (WordsRet s.data.toList w) := by
  have hsp := splitStr s 32 (by omega) w hE
  have hpl := pieces_length 32 s.data.toList
  rw [← Lib.size_eq] at hpl
  have HW : Hid (RuS.wordsL s.data.toList = (RuS.pieces 32 s.data.toList).filter (fun p => !p.isEmpty)) := Lib.hid rfl
  generalize RuS.pieces 32 s.data.toList = ps at *
  have hm := Whole.made w 9 (ps.map strV).toArray
  go_enter Tryz.func246, Tryz.ntmps246
  go_wp2_with fail
  refine hsp.mono ?_
  rintro e w1 ⟨n, hn, rfl, rfl⟩
  have HN := Lib.hid hn
  have hn1 : n ≤ 1000001 := by omega
  clear hn hpl hsp
  have hb0 : Below w.heap.size w (w.alloc (.cells (ps.map strV).toArray 9)) := grow1 w _
  generalize hw0 : (w.alloc (.cells (ps.map strV).toArray 9)) = w0 at *
  have hsz : w.heap.size < w0.heap.size := hm.lt
  clear hw0
  go_wp2_with fail
  go_loopw [3, 9] (fun v i wr => WordsLoop ps w0 v i wr) (fun _ i _ => n - (intOf i).toNat)
  case atStart => exact ⟨0, Nat.zero_le _, rfl, Own.empty _ _, Below.refl _ _⟩
  case round =>
    obtain ⟨k, hk, rfl, hown, hb⟩ := hrel
    by_cases hlt : k < n
    · have hlt2 : k < ps.length := by rw [← HN.out]; exact hlt
      have hc : wr.cell? ⟨w.heap.size, k, none⟩ = some (strV ps[k]) := by
        rw [hb.cell (p := ⟨w.heap.size, k, none⟩) hsz, hm.cell k]; simp [hlt2]
      unfold strV at hc
      have HY := Lib.hid (filter_take_yes ps k hlt2)
      have HNO := Lib.hid (filter_take_no ps k hlt2)
      have hle := filter_take_le ps k
      rw [← HN.out] at hle
      generalize ps[k] = p at *
      generalize (ps.take k).filter (fun p => !p.isEmpty) = acc at *
      clear hlt2
      cases hp : p.isEmpty with
      | true =>
        have HP := Lib.hid hp
        go_wp2_with fail
        go_roundw
        case rel => exact ⟨k + 1, by rw [← HN.out]; omega, by go_num, by rw [HNO.out HP.out]; exact hown, hb⟩
        case measure => simp [intOf]; omega
      | false =>
        have HP := Lib.hid hp
        go_wp2_with (at_builtin; refine push_str (by rfl) _ _ (by rfl) w0.heap.size _ acc (by rfl) (hown.alloc _) wr.heap.size (by rfl) p ?c1 ?c2 ?c3 ?_)
        case c1 => simp [go_sem, strV]
        case c2 => omega
        case c3 => have := hb.size; simp; omega
        intro v' w2 hown2 hb2
        go_wp2_with fail
        go_roundw
        case rel => exact ⟨k + 1, by rw [← HN.out]; omega, by go_num, by rw [HY.out HP.out]; exact hown2, (hb.alloc hb.size _).trans hb2⟩
        case measure => simp [intOf]; omega
    · have hkn : k = n := by rw [← HN.out] at hk; omega
      have hall : ps.take k = ps := List.take_of_length_le (by rw [← HN.out]; omega)
      rw [hall, ← HW.out] at hown
      clear hall
      go_wp2_with fail
      go_ret
      exact ⟨_, rfl, hown.strs, hb0.trans (hb.mono (Nat.le_of_lt hsz))⟩
end Go.Proofs.YtifjghkgmfmneaaGreatDoor
