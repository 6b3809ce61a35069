/- The walk of the library's LastIndexAny at the two signs: where the last of them stands in any text, whatever its bytes. Condition: a text's length is a machine's. -/
import Derived.Test.YtjjbkldlgjllnaaGreatDoorPhg
import Derived.Deep.WholeRow
namespace Go.Proofs.YtjjbkldlgjllnaaGreatDoor
open Go.RowKit

def LiaRet (s : ByteArray) (w : World) (e : Ending) (w' : World) : Prop := e = .returned (.int .i64 (PhS.lastW PhS.isSign s.data.toList)) ∧ Below w.heap.size w w'

theorem lastW_one (s : ByteArray) (h : s.size = 1) (h0 : 0 < s.size) : PhS.lastW PhS.isSign s.data.toList = if PhS.isSign s[0] then 0 else -1 := by
  have hl : s.data.toList = [s[0]] := by
    apply List.ext_getElem
    · simpa using h
    · intro i h1 h2
      have : i = 0 := by simp at h2; exact h2
      subst this
      rfl
  rw [hl]
  unfold PhS.lastW
  simp [PhS.lastW]

set_option maxRecDepth 100000 in
theorem lia_one (s : ByteArray) (h : s.size = 1) (w : World) :
    Calls Tryz.prog 121 #[.string s, .string ⟨#[43, 45]⟩] w (LiaRet s w) := by
  have h0 : 0 < s.size := by omega
  have HL := Lib.hid (lastW_one s h h0)
  have hb := indexRune_byte s[0]
  have h256 : s[0].toNat < 256 := UInt8.toNat_lt _
  by_cases hc : s[0].toNat < 128
  all_goals
    first | simp only [if_pos hc] at hb | simp only [if_neg hc] at hb
    go_enter Tryz.func121, Tryz.ntmps121
    go_wp2_with fail
    refine (hb _).mono ?_
    rintro e w1 ⟨⟨n, rfl, hn1, hn2⟩, hbw⟩
    by_cases hs : PhS.isSign s[0] = true
    · have hn := hn1 hs
      clear hn1 hn2
      go_wp2_with fail
      go_ret
      exact ⟨by rw [HL.out, if_pos hs]; rfl, hbw⟩
    · have hn := hn2 (by simpa using hs)
      clear hn1 hn2
      go_wp2_with fail
      go_ret
      exact ⟨by rw [HL.out, if_neg hs]; rfl, hbw⟩

/-- where the loop over the runes stands -/
def LiaLoop (s : ByteArray) (w : World) (i : Value) (w' : World) : Prop :=
  ∃ k : Nat, k ≤ s.size ∧ i = .int .i64 k ∧ Env w' ∧ Below w.heap.size w w' ∧ Hid (PhS.lastW PhS.isSign (s.data.toList.take k) = PhS.lastW PhS.isSign s.data.toList)

set_option maxRecDepth 100000 in
theorem lia_few (s : ByteArray) (h : ¬ s.size = 1) (h8 : s.size ≤ 8) (w : World) (hE : Env w) :
    Calls Tryz.prog 121 #[.string s, .string ⟨#[43, 45]⟩] w (LiaRet s w) := by
  have h8' : ¬ 8 < s.size := by omega
  go_enter Tryz.func121, Tryz.ntmps121
  go_wp2_with fail
  refine (Tryz.strings_shouldUseASCIISet _ _).mono ?_
  rintro e w1 ⟨rfl, hw1⟩
  subst hw1
  go_wp2_with fail
  go_loopw [13] (fun i w' => LiaLoop s w1 i w') (fun i _ => (intOf i).toNat)
  case atStart => exact ⟨s.size, Nat.le_refl _, rfl, hE, Below.refl _ _, Lib.hid (by rw [List.take_of_length_le (by simp)])⟩
  case round =>
    obtain ⟨k, hk, rfl, hEw, hbw, HK⟩ := hrel
    by_cases hk0 : 0 < k
    · have hst := lastW_step (s.extract 0 k).data.toList (by intro hh; have := congrArg List.length hh; rw [List.length_nil, Array.length_toList, ByteArray.size_data, ByteArray.size_extract] at this; omega)
      have hle : (s.extract 0 k).size ≤ 9223372036854775807 := by simp; omega
      have hcon := Tryz.utf8_DecodeLastRuneInString (s.extract 0 k) wr hle hEw.utf
      have hxl : (s.extract 0 k).data.toList = s.data.toList.take k := by simp
      rw [hxl] at hst hcon
      have hlen : (s.data.toList.take k).length = k := by simp; omega
      rw [hlen] at hst
      generalize Lib.decodeLastL (s.data.toList.take k) = d at hst hcon
      obtain ⟨r, n⟩ := d
      simp only at hst hcon
      obtain ⟨hn1, hn2, hst⟩ := hst
      have htk : ∀ m, m ≤ k → (s.data.toList.take k).take m = s.data.toList.take m := fun m hm => by rw [List.take_take, Nat.min_eq_left hm]
      rw [htk _ (by omega), htk _ (by omega)] at hst
      have HST := Lib.hid hst
      clear hst hlen hxl htk hle
      have hsub : IntKind.i64.wrap ((k : Int) - n) = (k : Int) - n := Go.IntWalk.i64_in _ (by omega)
      go_wp2_with fail
      refine hcon.mono ?_
      rintro e w2 ⟨rfl, hb2⟩
      rcases HST.out with ⟨c, hd, hc, hv⟩ | ⟨hr, hv⟩
      · have HV := Lib.hid hv
        clear hv
        simp only [Prod.mk.injEq] at hd
        obtain ⟨rfl, rfl⟩ := hd
        have hb := indexRune_byte c
        simp only [if_pos hc] at hb
        go_wp2_with fail
        refine (hb _).mono ?_
        rintro e w3 ⟨⟨n, rfl, hp, hm⟩, hb3⟩
        by_cases hs : PhS.isSign c = true
        · have hn := hp hs
          clear hp hm
          go_wp2_with fail
          go_ret
          refine ⟨?_, below_trans hbw (below_trans hb2 hb3)⟩
          rw [← HK.out, HV.out, if_pos hs]
          rw [show ((k - 1 : Nat) : Int) = (k : Int) - 1 by omega]; rfl
        · have hn := hm (by simpa using hs)
          clear hp hm
          go_wp2_with fail
          go_roundw
          case rel =>
            refine ⟨k - 1, by omega, by rw [show ((k - 1 : Nat) : Int) = (k : Int) - 1 by omega], (hEw.below hb2).below hb3, below_trans hbw (below_trans hb2 hb3), Lib.hid ?_⟩
            rw [← HK.out, HV.out, if_neg hs]
          case measure => simp [intOf]; omega
      · have HV := Lib.hid hv
        clear hv
        go_wp2_with fail
        refine (indexRune_high _ (by exact_mod_cast hr) _).mono ?_
        rintro e w3 ⟨rfl, hb3⟩
        go_wp2_with fail
        go_roundw
        case rel =>
          refine ⟨k - n, by omega, by rw [show ((k - n : Nat) : Int) = (k : Int) - n by omega], (hEw.below hb2).below hb3, below_trans hbw (below_trans hb2 hb3), Lib.hid ?_⟩
          rw [← HK.out, HV.out]
        case measure => simp [intOf]; omega
    · have hk0' : k = 0 := by omega
      subst hk0'
      have HF : Hid (PhS.lastW PhS.isSign s.data.toList = -1) := Lib.hid (by rw [← HK.out]; rfl)
      go_wp2_with fail
      go_ret
      exact ⟨by rw [HF.out]; rfl, hbw⟩

/-- where the loop over the bytes stands -/
def LiaByte (s : ByteArray) (i : Value) : Prop :=
  ∃ k : Nat, k ≤ s.size ∧ i = .int .i64 ((k : Int) - 1) ∧ Hid (PhS.lastW PhS.isSign (s.data.toList.take k) = PhS.lastW PhS.isSign s.data.toList)

theorem sign_contains (c : UInt8) : ([43, 45] : List UInt8).contains c = PhS.isSign c := by
  unfold PhS.isSign
  rw [List.contains_cons, List.contains_cons, List.contains_nil, Bool.or_false]

theorem setInfo : (Tryz.prog.info? 161).map (fun i => (i.zero, i.size)) = some (some (.agg (Array.replicate 256 (.bool false))), 256) := by kernel_rfl
theorem below_twice (w : World) (a b : Obj) : Below w.heap.size w ((w.alloc a).alloc b) := ((Below.refl _ _).alloc (Nat.le_refl _) _).alloc (Nat.le_trans (Nat.le_refl _) ((Below.refl _ _).alloc (Nat.le_refl _) _).size) _

set_option maxRecDepth 100000 in
theorem lia_many (s : ByteArray) (h8 : 8 < s.size) (hsz : s.size ≤ 281474976710656) (w : World) :
    Calls Tryz.prog 121 #[.string s, .string ⟨#[43, 45]⟩] w (LiaRet s w) := by
  have h1 : ¬ s.size = 1 := by omega
  have hset : Hid (∀ x : UInt8, (Lib.setCells [43, 45])[x.toNat]? = some (.bool (PhS.isSign x))) := Lib.hid fun x => by rw [Lib.setCells_at, sign_contains]
  go_enter Tryz.func121, Tryz.ntmps121
  go_wp2_with fail
  refine (Tryz.strings_shouldUseASCIISet _ _).mono ?_
  rintro e w1 ⟨rfl, hw1⟩
  subst hw1
  have hmk := Tryz.strings_makeASCIISet (zero_of_info setInfo).1 ⟨#[43, 45]⟩ w1 (by decide) (by
    intro j b hj
    match j with
    | 0 => simp at hj; subst hj; decide
    | 1 => simp at hj; subst hj; decide
    | j + 2 => simp at hj)
  have hsc : (storeCells ⟨w1.heap.size + 1, 0, none⟩ (Lib.setCells [43, 45]).toList 0).run Tryz.prog ((w1.alloc (.cells (Lib.setCells [43, 45]) 161)).alloc (.cells (Array.replicate 256 (.bool false)) 161)) = .ok () ((w1.alloc (.cells (Lib.setCells [43, 45]) 161)).alloc (.cells (Lib.setCells [43, 45]) 161)) := by
    have := run_storeCells_new (P := Tryz.prog) (w1.alloc (.cells (Lib.setCells [43, 45]) 161)) 161 (Array.replicate 256 (.bool false)) (Lib.setCells [43, 45]) (by rw [Lib.setCells_size]; exact (zero_of_info setInfo).2) (by rw [Lib.setCells_size, Array.size_replicate]) (Lib.setCells_one _)
    simpa using this
  have hcell : ∀ x : UInt8, ((w1.alloc (.cells (Lib.setCells [43, 45]) 161)).alloc (.cells (Lib.setCells [43, 45]) 161)).cell? ⟨w1.heap.size + 1, x.toNat, none⟩ = some (.bool (PhS.isSign x)) := fun x => by
    rw [World.cell?_alloc_at _ _ _ _ (by simp)]; exact hset.out x
  have HC := Lib.hid hcell
  clear hcell hset
  go_wp2_with fail
  refine hmk.mono ?_
  rintro e w2 ⟨rfl, hw2⟩
  subst hw2
  go_wp2_with fail
  rw [show Tryz.zeroCells161 = Array.replicate 256 (Value.bool false) by kernel_rfl]
  simp only [hsc, Result.andThen]
  rw [Oper.upon_skip]
  clear hsc hmk
  go_wp2_with fail
  go_loop [8] (fun i => LiaByte s i) (fun i => (intOf i + 1).toNat)
  case atStart => exact ⟨s.size, Nat.le_refl _, rfl, Lib.hid (by rw [List.take_of_length_le (by simp)])⟩
  case round =>
    obtain ⟨k, hk, rfl, HK⟩ := hrel
    by_cases hk0 : 0 < k
    · have h0k : 0 ≤ (k : Int) - 1 := by omega
      have hcon := Tryz.asciiSet_contains (w1.heap.size + 1) s[k - 1] (PhS.isSign s[k - 1]) _ (HC.out _)
      have hidx : ((k : Int) - 1).toNat = k - 1 := by omega
      have HV : Hid (PhS.lastW PhS.isSign (s.data.toList.take k) = if PhS.isSign s[k - 1] then ((k - 1 : Nat) : Int) else PhS.lastW PhS.isSign (s.data.toList.take (k - 1))) := Lib.hid (by
        have := PhS.take_snoc s (k - 1) (by omega)
        rw [show k - 1 + 1 = k by omega] at this
        rw [this, PhS.lastW_snoc, List.length_take, Array.length_toList, ByteArray.size_data, Nat.min_eq_left (by omega)])
      generalize hsg : PhS.isSign s[k - 1] = sg at hcon HV
      clear hsg
      go_wp2_with fail
      refine hcon.mono ?_
      rintro e w3 ⟨rfl, hw3⟩
      subst hw3
      cases sg with
      | true =>
        go_wp2_with fail
        go_ret
        refine ⟨?_, below_twice _ _ _⟩
        rw [← HK.out, HV.out, show ((k - 1 : Nat) : Int) = (k : Int) - 1 by omega]; simp only [if_true]; rfl
      | false =>
        go_wp2_with fail
        go_round
        case rel => exact ⟨k - 1, by omega, by rw [show ((k - 1 : Nat) : Int) = (k : Int) - 1 by omega], Lib.hid (by rw [← HK.out, HV.out]; rfl)⟩
        case measure => simp [intOf]; omega
    · have hk0' : k = 0 := by omega
      subst hk0'
      have HF : Hid (PhS.lastW PhS.isSign s.data.toList = -1) := Lib.hid (by rw [← HK.out]; rfl)
      go_wp2_with fail
      go_ret
      exact ⟨by rw [HF.out]; rfl, below_twice _ _ _⟩

theorem lastIndexAny (s : ByteArray) (hsz : s.size ≤ 281474976710656) (w : World) (hE : Env w) :
    Calls Tryz.prog 121 #[.string s, .string ⟨#[43, 45]⟩] w (LiaRet s w) := by
  by_cases h1 : s.size = 1
  · exact lia_one s h1 w
  · by_cases h8 : 8 < s.size
    · exact lia_many s h8 hsz w
    · exact lia_few s h1 (by omega) w hE
end Go.Proofs.YtjjbkldlgjllnaaGreatDoor
