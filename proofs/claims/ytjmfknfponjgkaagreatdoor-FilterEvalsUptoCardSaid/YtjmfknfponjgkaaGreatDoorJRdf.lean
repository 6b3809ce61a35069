/- The walks of the digits and of the special bytes: the program's 'digit', the document's 'hex' and 'special'. Conditions: as stated. -/
import Derived.Deep.DrawnRows
import Derived.Deep.RegionHeld3
import Derived.Test.YtjmfknfponjgkaaGreatDoorJRda
import Derived.Test.YtjmfknfponjgkaaGreatDoorJRub
import Derived.Test.YtjmfknfponjgkaaGreatDoorJMem
import Derived.Test.YtjmfknfponjgkaaGreatDoorJAva
set_option maxRecDepth 100000
set_option maxHeartbeats 8000000
namespace Go.Proofs.YtjmfknfponjgkaaGreatDoor
section
open Go.RowKit
namespace RdS
def hexI (c : UInt8) : Int := match hexOf c with
 | some n => (n : Int)
 | none => -1
theorem hexI_index : ∀ n : Fin 256, Lib.indexByte hexL (RuS.lowC (UInt8.ofNat n.val)) = hexI (UInt8.ofNat n.val) := by decide +kernel
theorem hexI_low (c : UInt8) : Lib.indexByte hexL (RuS.lowC c) = hexI c := by
 have h := hexI_index ⟨c.toNat, c.toNat_lt⟩
 simpa using h
theorem hexI_cases (c : UInt8) : (hexOf c = none /\ hexI c = -1) \/ ∃ n : Nat, hexOf c = some n /\ hexI c = (n : Int) /\ n < 16 := by
 unfold hexI hexOf
 split
 · exact .inr ⟨_, rfl, rfl, by omega⟩
 · split
   · exact .inr ⟨_, rfl, rfl, by omega⟩
   · split
     · exact .inr ⟨_, rfl, rfl, by omega⟩
     · exact .inl ⟨rfl, rfl⟩
end RdS
theorem digit_c (c : UInt8) (w : World) : Calls Tryz.prog 208 #[.int .u8 (c.toNat : Int)] w fun e w' => e = .returned (.int .i64 (RdS.hexI c)) /\ Below w.heap.size w w' := by
 have hlow := fun w => lower_c ⟨#[c]⟩ (by show 1 <= _; decide) w
 unfold LowRet at hlow
 have hl1 : (RuS.lower (⟨#[c]⟩ : ByteArray).data.toList) = [RuS.lowC c] := rfl
 rw [hl1] at hlow
 have hib := fun w => Tryz.strings_IndexByte ⟨#[48, 49, 50, 51, 52, 53, 54, 55, 56, 57, 97, 98, 99, 100, 101, 102]⟩ ((RuS.lowC c).toNat : Int) w
 have hd1 : (⟨#[48, 49, 50, 51, 52, 53, 54, 55, 56, 57, 97, 98, 99, 100, 101, 102]⟩ : ByteArray).data.toList = RdS.hexL := rfl
 have hd2 : (((RuS.lowC c).toNat : Int).toNat.toUInt8) = RuS.lowC c := by rw [Int.toNat_natCast]; exact UInt8.ofNat_toNat
 rw [hd1, hd2, RdS.hexI_low] at hib
 clear hd1 hd2 hl1
 have hconv : (convert 61 9 (.slice (some ⟨w.heap.size, 0, none⟩) 1 1)).run Tryz.prog (w.alloc (.cells #[.int .u8 (c.toNat : Int)] 5)) = .ok (.string ⟨#[c]⟩) (w.alloc (.cells #[.int .u8 (c.toNat : Int)] 5)) := by
  refine run_convert_bytes_back (w.alloc (.cells #[.int .u8 (c.toNat : Int)] 5)) _ _ 5 ⟨w.heap.size, 0, none⟩ 1 [c] Tryz.underlying61 Tryz.underlying5 Tryz.underlying9 fun j hj => ?_
  have : j = 0 := by simp at hj; exact hj
  subst this
  have hadd : (⟨w.heap.size, 0, none⟩ : Addr).add 0 = ⟨w.heap.size, 0, none⟩ := by unfold Addr.add; split <;> simp_all
  rw [hadd]
  simp [go_sem]
 generalize RuS.lowC c = d at *
 generalize RdS.hexI c = r at *
 go_enter Tryz.func208, Tryz.ntmps208
 go_wp2_with fail
 refine (hlow _).mono ?_; rintro e w1 ⟨rfl, hb1⟩
 go_wp2_with fail
 refine (hib _).mono ?_; rintro e w2 ⟨rfl, rfl⟩
 go_wp2_with fail
 go_ret
 exact ⟨rfl, (grow1 w _).trans (hb1.mono (by simp))⟩
theorem special_c (c : UInt8) (w : World) : Calls Tryz.prog 202 #[.int .u8 (c.toNat : Int)] w fun e w' => e = .returned (.bool (RdS.special c)) /\ w = w' := by
 cases hs : RdS.special c with
 | true =>
  have hm : c ∈ RdS.specials := List.contains_iff_mem.1 hs
  simp only [RdS.specials, List.mem_cons, List.not_mem_nil, or_false] at hm
  clear hs
  rcases hm with rfl | rfl | rfl | rfl | rfl | rfl | rfl
  all_goals
   go_enter Tryz.func202, Tryz.ntmps202
   go_wp2_with fail
   go_ret
   exact ⟨rfl, rfl⟩
 | false =>
  have hn : ∀ d, RdS.special d = true -> c ≠ d := fun d hd => RdS.special_sep hd hs
  have f1 : ((c.toNat : Int) == 44) = false := beq_eq_false_iff_ne.2 (fun h => hn 44 (by decide) (u8_is rfl h))
  have f2 : ((c.toNat : Int) == 43) = false := beq_eq_false_iff_ne.2 (fun h => hn 43 (by decide) (u8_is rfl h))
  have f3 : ((c.toNat : Int) == 34) = false := beq_eq_false_iff_ne.2 (fun h => hn 34 (by decide) (u8_is rfl h))
  have f4 : ((c.toNat : Int) == 92) = false := beq_eq_false_iff_ne.2 (fun h => hn 92 (by decide) (u8_is rfl h))
  have f5 : ((c.toNat : Int) == 60) = false := beq_eq_false_iff_ne.2 (fun h => hn 60 (by decide) (u8_is rfl h))
  have f6 : ((c.toNat : Int) == 62) = false := beq_eq_false_iff_ne.2 (fun h => hn 62 (by decide) (u8_is rfl h))
  have f7 : ((c.toNat : Int) == 59) = false := beq_eq_false_iff_ne.2 (fun h => hn 59 (by decide) (u8_is rfl h))
  clear hn hs
  go_enter Tryz.func202, Tryz.ntmps202
  go_wp2_with fail
  go_ret
  exact ⟨rfl, rfl⟩
theorem hex_c (c : UInt8) (w : World) : Calls Tryz.prog 221 #[.int .u8 (c.toNat : Int)] w fun e w' => e = .returned (.int .i64 (RdS.hexI c)) /\ w = w' := by
 have hlt := c.toNat_lt
 by_cases h1 : 48 <= c.toNat /\ c.toNat <= 57
 · have HR : Hid (RdS.hexI c = (c.toNat : Int) - 48) := hZ9 (by unfold RdS.hexI RdS.hexOf; rw [if_pos h1]; show ((c.toNat - 48 : Nat) : Int) = _; omega)
   obtain ⟨h1, h2⟩ := h1
   have g1 : (48 : Int) <= (c.toNat : Int) := by omega
   have g2 : (c.toNat : Int) <= 57 := by omega
   go_enter Tryz.func221, Tryz.ntmps221
   go_wp2_with fail
   go_ret
   exact ⟨by rw [HR.out]; rfl, rfl⟩
 by_cases h2 : 97 <= c.toNat /\ c.toNat <= 102
 · have HR : Hid (RdS.hexI c = (c.toNat : Int) - 97 + 10) := hZ9 (by unfold RdS.hexI RdS.hexOf; rw [if_neg h1, if_pos h2]; show ((c.toNat - 97 + 10 : Nat) : Int) = _; omega)
   obtain ⟨h3, h4⟩ := h2
   have g1 : decide ((c.toNat : Int) <= 57) = false := decide_eq_false (by omega)
   have g0 : (48 : Int) <= (c.toNat : Int) := by omega
   have g2 : (97 : Int) <= (c.toNat : Int) := by omega
   have g3 : (c.toNat : Int) <= 102 := by omega
   clear h1
   go_enter Tryz.func221, Tryz.ntmps221
   go_wp2_with fail
   go_ret
   exact ⟨by rw [HR.out]; rfl, rfl⟩
 by_cases h3 : 65 <= c.toNat /\ c.toNat <= 70
 · have HR : Hid (RdS.hexI c = (c.toNat : Int) - 65 + 10) := hZ9 (by unfold RdS.hexI RdS.hexOf; rw [if_neg h1, if_neg h2, if_pos h3]; show ((c.toNat - 65 + 10 : Nat) : Int) = _; omega)
   obtain ⟨h4, h5⟩ := h3
   have g1 : decide ((c.toNat : Int) <= 57) = false := decide_eq_false (by omega)
   have g0 : (48 : Int) <= (c.toNat : Int) := by omega
   have g2 : decide ((97 : Int) <= (c.toNat : Int)) = false := decide_eq_false (by omega)
   have g3 : (65 : Int) <= (c.toNat : Int) := by omega
   have g4 : (c.toNat : Int) <= 70 := by omega
   clear h1 h2
   go_enter Tryz.func221, Tryz.ntmps221
   go_wp2_with fail
   go_ret
   exact ⟨by rw [HR.out]; rfl, rfl⟩
 have HR : Hid (RdS.hexI c = -1) := hZ9 (by unfold RdS.hexI RdS.hexOf; rw [if_neg h1, if_neg h2, if_neg h3])
 have hc : c.toNat < 48 \/ (57 < c.toNat /\ c.toNat < 65) \/ (70 < c.toNat /\ c.toNat < 97) \/ 102 < c.toNat := by omega
 clear h1 h2 h3
 rcases hc with h | ⟨h, h'⟩ | ⟨h, h'⟩ | h
 all_goals
  first | have g1 : (48 : Int) <= (c.toNat : Int) := by omega | have g1 : decide ((48 : Int) <= (c.toNat : Int)) = false := decide_eq_false (by omega)
  first | have g2 : (c.toNat : Int) <= 57 := by omega | have g2 : decide ((c.toNat : Int) <= 57) = false := decide_eq_false (by omega)
  first | have g3 : (97 : Int) <= (c.toNat : Int) := by omega | have g3 : decide ((97 : Int) <= (c.toNat : Int)) = false := decide_eq_false (by omega)
  first | have g4 : (c.toNat : Int) <= 102 := by omega | have g4 : decide ((c.toNat : Int) <= 102) = false := decide_eq_false (by omega)
  first | have g5 : (65 : Int) <= (c.toNat : Int) := by omega | have g5 : decide ((65 : Int) <= (c.toNat : Int)) = false := decide_eq_false (by omega)
  first | have g6 : (c.toNat : Int) <= 70 := by omega | have g6 : decide ((c.toNat : Int) <= 70) = false := decide_eq_false (by omega)
  go_enter Tryz.func221, Tryz.ntmps221
  go_wp2_with fail
  go_ret
  exact ⟨by rw [HR.out]; rfl, rfl⟩
end
section
open Go.RowKit
attribute [local go_sem ↓] Go.wp_at_zero Go.wp_at_succ
namespace RdS
def bares : List UInt8 := [44, 43, 34, 92, 60, 62, 59, 35, 61, 32]
theorem bare1_fin : ∀ n : Fin 256, decide (0 <= Lib.indexByte bares (UInt8.ofNat n.val)) = bare1 (UInt8.ofNat n.val) := by decide +kernel
theorem bare1_index (c : UInt8) : decide (0 <= Lib.indexByte bares c) = bare1 c := by
 have h := bare1_fin ⟨c.toNat, c.toNat_lt⟩
 rwa [show UInt8.ofNat c.toNat = c from UInt8.ofNat_toNat] at h
theorem badC_first {c : UInt8} {last : Bool} (h1 : c ≠ 32) (h2 : c ≠ 35) : badC true last c = badC false last c := by
 have e1 : (c == 32) = false := by simpa using h1
 have e2 : (c == 35) = false := by simpa using h2
 unfold badC; rw [e1, e2]; simp
theorem readS_first {c : UInt8} {r : List UInt8} (h1 : c ≠ 32) (h2 : c ≠ 35) : readS (c :: r) = readL false (c :: r) := by
 unfold readS
 match r with
 | [] => simp [readL, badC_first h1 h2]
 | [d] => simp [readL, badC_first h1 h2]
 | d :: e :: r => simp [readL, badC_first h1 h2]
theorem readS_bad {c : UInt8} {r : List UInt8} (h : c = 32 \/ c = 35) : readS (c :: r) = none := by
 unfold readS
 refine readL_bad ?_ ?_
 · rcases h with rfl | rfl <;> decide
 · rcases h with rfl | rfl <;> simp [badC]
end RdS
def ValRet (l : List UInt8) (w : World) (e : Ending) (w' : World) : Prop := e = .returned (.tuple #[.string ⟨((RdS.readS l).getD []).toArray⟩, .bool (RdS.readS l).isSome]) /\ Below w.heap.size w w'
theorem ValRet.none {l : List UInt8} {w w' : World} (h : RdS.readS l = none) (hb : Below w.heap.size w w') : ValRet l w (.returned (.tuple #[.string ⟨#[]⟩, .bool false])) w' := by
 unfold ValRet; rw [h]; exact ⟨rfl, hb⟩
def ValLoop (l : List UInt8) (w : World) (i : Value) (wr : World) : Prop :=
 ∃ (k : Nat) (acc : List UInt8), k <= l.length /\ i = .int .i64 k /\ Bld w.heap.size w.heap.size acc wr /\ acc.length <= k /\ RdS.readS l = (RdS.readL false (l.drop k)).map (acc ++ ·) /\ Below w.heap.size w wr
theorem or16 {x y : Nat} (hx : x < 16) (hy : y < 16) : bits .or .i64 ((x : Int) * 16) (y : Int) = ((16 * x + y : Nat) : Int) := by
 have h : ∀ a : Fin 16, ∀ b : Fin 16, bits .or .i64 ((a.val : Int) * 16) (b.val : Int) = ((16 * a.val + b.val : Nat) : Int) := by decide +kernel
 exact h ⟨x, hx⟩ ⟨y, hy⟩
theorem value_c (l : List UInt8) (hl : l.length <= 1000000) (w : World) : Calls Tryz.prog 187 #[.string ⟨l.toArray⟩] w (ValRet l w) := by
 match l, hl with
 | [], hl =>
  have hst := Tryz.Builder_String_any w.heap.size w.heap.size [] (w.alloc (.cells #[.pointer none, .slice none 0 0] 63)) (by first | exact Bld.fresh w | simpa [Bld, byteV, Lib.byteCells] using Bld.fresh w) (by simp)
  go_enter Tryz.func187, Tryz.ntmps187
  go_wp2_with fail
  refine wp_loop_rounds 1 ?_
  rw [rounds_succ]
  go_wp2_with fail
  refine hst.mono ?_; rintro e w1 ⟨rfl, hb1⟩
  go_wp2_with fail
  go_ret2
  exact ⟨rfl, (grow1 w _).trans hb1⟩
 | c0 :: r0, hl =>
  have HR32 := hZ9 (fun (h : c0 = 32 \/ c0 = 35) => RdS.readS_bad (r := r0) h)
  have HRF := hZ9 (fun (h1 : c0 ≠ 32) (h2 : c0 ≠ 35) => RdS.readS_first (r := r0) h1 h2)
  have h0 : 0 < (c0 :: r0).length := by simp
  have hq0 : ∀ h, (⟨(c0 :: r0).toArray⟩ : ByteArray)[0]'h = c0 := fun _ => rfl
  have hemp : (c0 :: r0).isEmpty = false := rfl
  generalize c0 :: r0 = l at *
  by_cases c32 : c0 = 32
  · have e32 : ((c0.toNat : Int) == 32) = true := by rw [c32]; rfl
    have HC := hZ9 c32
    clear c32
    go_enter Tryz.func187, Tryz.ntmps187
    go_wp2_with fail
    go_ret2
    exact ValRet.none (HR32.out (.inl HC.out)) (grow1 w _)
  · have HC32 := hZ9 c32
    have e32 : ((c0.toNat : Int) == 32) = false := beq_eq_false_iff_ne.2 (fun h => HC32.out (u8_is rfl h))
    clear c32
    by_cases c35 : c0 = 35
    · have e35 : ((c0.toNat : Int) == 35) = true := by rw [c35]; rfl
      have HC := hZ9 c35
      clear c35
      go_enter Tryz.func187, Tryz.ntmps187
      go_wp2_with fail
      go_ret2
      exact ValRet.none (HR32.out (.inr HC.out)) (grow1 w _)
    · have HC35 := hZ9 c35
      have e35 : ((c0.toNat : Int) == 35) = false := beq_eq_false_iff_ne.2 (fun h => HC35.out (u8_is rfl h))
      have HRS := hZ9 (HRF.out HC32.out HC35.out)
      clear c35 HRF HR32
      go_enter Tryz.func187, Tryz.ntmps187
      go_wp2_with fail
      go_loopw [5] (fun i wr => ValLoop l w i wr) (fun i _ => l.length - (intOf i).toNat)
      case atStart => exact ⟨0, [], Nat.zero_le _, rfl, Bld.fresh w, Nat.zero_le _, by rw [HRS.out, List.drop_zero]; simp, grow1 w _⟩
      case round =>
       obtain ⟨k, acc, hk, rfl, hbl, hacc, hsp, hb⟩ := hrel
       have HK := hZ9 hk
       have HSP := hZ9 hsp
       have hsz := hb.size
       clear hsp hk
       by_cases hlt : k < l.length
       · have HD := hZ9 (List.drop_eq_getElem_cons hlt)
         generalize hcq : l[k] = c at *
         have hq2 : ∀ h, (⟨l.toArray⟩ : ByteArray)[k]'h = c := fun _ => hcq
         clear hcq
         have HNONE : Hid (RdS.readL false (l.drop k) = none -> RdS.readS l = none) := hZ9 (fun h => by rw [HSP.out, h]; rfl)
         have HFIN : Hid (∀ (k2 : Nat) (x : UInt8) (i : Value) (w2 : World), k2 <= l.length -> k < k2 -> i = .int .i64 k2 -> RdS.readL false (l.drop k) = (RdS.readL false (l.drop k2)).map (x :: ·) -> BldU w.heap.size w.heap.size (acc ++ [x]) w2 -> Below w.heap.size w w2 -> ValLoop l w i w2) :=
          hZ9 (fun k2 x i w2 h1 h2 hi h3 h4 h5 => ⟨k2, acc ++ [x], h1, hi, h4.bld, by simp; omega, by rw [HSP.out, h3, Option.map_map]; congr 1; funext y; simp, h5⟩)
         by_cases h92 : c = 92
         · have HC9 := hZ9 h92
           have e92 : ((c.toNat : Int) != 92) = false := by rw [h92]; rfl
           clear h92
           by_cases hk1 : k + 1 < l.length
           · have HD1 := hZ9 (List.drop_eq_getElem_cons hk1)
             generalize hdq : l[k + 1] = d at *
             have hq3 : ∀ h, (⟨l.toArray⟩ : ByteArray)[k + 1]'h = d := fun _ => hdq
             clear hdq
             have hk1z : (k : Int) + 1 < (l.length : Int) := by omega
             have hib := fun w => Tryz.strings_IndexByte ⟨#[44, 43, 34, 92, 60, 62, 59, 35, 61, 32]⟩ (d.toNat : Int) w
             have hd1 : (⟨#[44, 43, 34, 92, 60, 62, 59, 35, 61, 32]⟩ : ByteArray).data.toList = RdS.bares := rfl
             have hd2 : ((d.toNat : Int).toNat.toUInt8) = d := by rw [Int.toNat_natCast]; exact UInt8.ofNat_toNat
             rw [hd1, hd2] at hib
             clear hd1 hd2
             have HIX := hZ9 (RdS.bare1_index d)
             generalize Lib.indexByte RdS.bares d = ix at *
             replace hib := fun w => (hib w).mono (fun e w' (h : _ /\ _) => (⟨h.1, h.2.symm⟩ : e = .returned (.int .i64 ix) /\ w = w'))
             by_cases hix : 0 <= ix
             · have HBR : Hid (RdS.bare1 d = true) := hZ9 (by rw [<- HIX.out, decide_eq_true hix])
               have HE : Hid (RdS.readL false (l.drop k) = (RdS.readL false (l.drop (k + 2))).map (d :: ·)) := hZ9 (by rw [HD.out, HC9.out, HD1.out, RdS.readL_stroke_bare _ HBR.out])
               go_wp2_with fail
               refine (hib _).mono ?_; rintro e w0 ⟨rfl, rfl⟩
               go_wp2_with fail
               refine (writeByte_c w.heap.size w.heap.size acc d _ hbl (by omega) (by omega)).mono ?_
               rintro e w1 ⟨rfl, hu, hb1⟩
               go_wp2_with fail
               go_roundw
               case rel => exact HFIN.out (k + 2) d _ _ (by omega) (by omega) (by go_num) HE.out hu (hb.trans hb1)
               case measure => simp [intOf]; omega
             · have HBR : Hid (RdS.bare1 d = false) := hZ9 (by rw [<- HIX.out, decide_eq_false hix])
               have hixn : decide (0 <= ix) = false := decide_eq_false hix
               clear hix
               by_cases hk2 : k + 2 < l.length
               · have HD2 := hZ9 (List.drop_eq_getElem_cons hk2)
                 generalize hfq : l[k + 2] = f at *
                 have hq4 : ∀ h, (⟨l.toArray⟩ : ByteArray)[k + 2]'h = f := fun _ => hfq
                 clear hfq
                 have hk2z : (k : Int) + 2 < (l.length : Int) := by omega
                 have hdd := fun w => digit_c d w
                 have hdf := fun w => digit_c f w
                 rcases RdS.hexI_cases d with ⟨hn, hv⟩ | ⟨x, hx, hxv, hx16⟩
                 · rw [hv] at hdd
                   have HN : Hid (RdS.readS l = none) := hZ9 (HNONE.out (by rw [HD.out, HC9.out, HD1.out, show k + 1 + 1 = k + 2 from rfl, HD2.out, RdS.readL_stroke_none1 _ HBR.out (.inl hn)]))
                   clear hn hv hdf
                   go_wp2_with fail
                   refine (hib _).mono ?_; rintro e w0 ⟨rfl, rfl⟩
                   go_wp2_with fail
                   refine (hdd _).mono ?_; rintro e w1 ⟨rfl, hb1⟩
                   go_wp2_with fail
                   go_ret2
                   exact ValRet.none HN.out (hb.trans (hb1.mono (by omega)))
                 · rcases RdS.hexI_cases f with ⟨hn, hv⟩ | ⟨y, hy, hyv, hy16⟩
                   · rw [hxv] at hdd
                     rw [hv] at hdf
                     have HN : Hid (RdS.readS l = none) := hZ9 (HNONE.out (by rw [HD.out, HC9.out, HD1.out, show k + 1 + 1 = k + 2 from rfl, HD2.out, RdS.readL_stroke_none1 _ HBR.out (.inr hn)]))
                     clear hn hv hx hxv
                     go_wp2_with fail
                     refine (hib _).mono ?_; rintro e w0 ⟨rfl, rfl⟩
                     go_wp2_with fail
                     refine (hdd _).mono ?_; rintro e w1 ⟨rfl, hb1⟩
                     go_wp2_with fail
                     refine (hdf _).mono ?_; rintro e w2 ⟨rfl, hb2⟩
                     go_wp2_with fail
                     go_ret2
                     exact ValRet.none HN.out (hb.trans ((below_trans hb1 hb2).mono (by omega)))
                   · have HE : Hid (RdS.readL false (l.drop k) = (RdS.readL false (l.drop (k + 3))).map (UInt8.ofNat (16 * x + y) :: ·)) := hZ9 (by
                      rw [HD.out, HC9.out, HD1.out, show k + 1 + 1 = k + 2 from rfl, HD2.out, RdS.readL_stroke_hex _ HBR.out hx hy])
                     have hor := or16 hx16 hy16
                     have HT : Hid (((UInt8.ofNat (16 * x + y)).toNat : Int) = ((16 * x + y : Nat) : Int)) := hZ9 (by rw [UInt8.toNat_ofNat']; omega)
                     obtain ⟨z, hz⟩ : ∃ z : UInt8, z = UInt8.ofNat (16 * x + y) := ⟨_, rfl⟩
                     rw [<- hz] at HE HT
                     have hor2 : bits .or .i64 ((x : Int) * 16) (y : Int) = (z.toNat : Int) := by rw [hor, HT.out]
                     have hz256 := z.toNat_lt
                     clear hx hy hor hz HT
                     rw [hxv] at hdd
                     rw [hyv] at hdf
                     go_wp2_with fail
                     refine (hib _).mono ?_; rintro e w0 ⟨rfl, rfl⟩
                     go_wp2_with fail
                     refine (hdd _).mono ?_; rintro e w1 ⟨rfl, hb1⟩
                     go_wp2_with fail
                     refine (hdf _).mono ?_; rintro e w2 ⟨rfl, hb2⟩
                     go_wp2_with fail
                     have hbl2 := ((hbl.call hb1).call hb2).drew
                     have hbt : Below w.heap.size w w2.drew := (hb.trans ((below_trans hb1 hb2).mono (by omega))).drew
                     clear hbl hb1 hb2 hb
                     have hsz2 := hbt.size
                     have hwz : IntKind.u8.wrap (z.toNat : Int) = (z.toNat : Int) := by rw [IntKind.wrap_u8]; omega
                     have hwx : IntKind.i64.wrap ((x : Int) * 16) = (x : Int) * 16 := by rw [IntKind.wrap_i64]; omega
                     have j1 : (0 : Int) <= (k : Int) + 1 := by omega
                     have j2 : (0 : Int) <= (k : Int) + 2 := by omega
                     have t1 : ((k : Int) + 1).toNat = k + 1 := by omega
                     have t2 : ((k : Int) + 2).toNat = k + 2 := by omega
                     have w1' : IntKind.i64.wrap ((k : Int) + 1) = (k : Int) + 1 := by rw [IntKind.wrap_i64]; omega
                     have w2' : IntKind.i64.wrap ((k : Int) + 2) = (k : Int) + 2 := by rw [IntKind.wrap_i64]; omega
                     clear hdd hdf hib
                     go_region_held3 (fun _ => True) (trivial)
                      (first
                        | (go_at_call 208; (with_reducible refine (digit_c _ _).mono ?_); rintro e w1 ⟨rfl, hb1⟩; replace hbl2 := hbl2.call hb1; replace hbt := hbt.trans (hb1.mono hbt.size))
                        | (go_at_call 41; (with_reducible refine (writeByte_c w.heap.size w.heap.size acc z _ hbl2 (by omega) hbt.size).mono ?_); rintro e w3 ⟨rfl, hu, hb3⟩))
                     all_goals go_wp2_with fail
                     all_goals go_roundw
                     all_goals first | (simp [intOf]; omega) | exact HFIN.out (k + 3) z _ _ (by omega) (by omega) (by go_num) HE.out hu (hbt.trans hb3)
               · have hk2z : decide ((k : Int) + 2 < (l.length : Int)) = false := decide_eq_false (by omega)
                 have hnil : l.drop (k + 1 + 1) = [] := List.drop_of_length_le (by omega)
                 have HN : Hid (RdS.readS l = none) := hZ9 (HNONE.out (by rw [HD.out, HC9.out, HD1.out, hnil, RdS.readL_stroke_none2 _ HBR.out]))
                 clear hnil
                 go_wp2_with fail
                 refine (hib _).mono ?_; rintro e w0 ⟨rfl, rfl⟩
                 go_wp2_with fail
                 go_ret2
                 exact ValRet.none HN.out hb
           · have hk1z : decide ((k : Int) + 1 < (l.length : Int)) = false := decide_eq_false (by omega)
             have hk2z : decide ((k : Int) + 2 < (l.length : Int)) = false := decide_eq_false (by omega)
             have hnil : l.drop (k + 1) = [] := List.drop_of_length_le (by omega)
             have HN : Hid (RdS.readS l = none) := hZ9 (HNONE.out (by rw [HD.out, HC9.out, hnil, RdS.readL_stroke_none3]))
             clear hnil
             go_wp2_with fail
             go_ret2
             exact ValRet.none HN.out hb
         · have HC9 := hZ9 h92
           have e92 : ((c.toNat : Int) != 92) = true := by rw [bne_iff_ne]; exact fun h => HC9.out (u8_is rfl h)
           clear h92
           have hem : (l.drop (k + 1)).isEmpty = decide (k + 1 = l.length) := by rw [Bool.eq_iff_iff, List.isEmpty_iff, List.drop_eq_nil_iff, decide_eq_true_eq]; omega
           have HBAD : Hid (RdS.badC false (decide (k + 1 = l.length)) c = true -> RdS.readS l = none) := hZ9 (fun h => HNONE.out (by rw [HD.out]; exact RdS.readL_bad HC9.out (by rw [hem]; exact h)))
           have HOK : Hid (RdS.badC false (decide (k + 1 = l.length)) c = false -> RdS.readL false (l.drop k) = (RdS.readL false (l.drop (k + 1))).map (c :: ·)) := hZ9 (fun h => by rw [HD.out]; exact RdS.readL_plain HC9.out (by rw [hem]; exact h))
           have el : ((k : Int) == (l.length : Int) - 1) = decide (k + 1 = l.length) := by rw [Bool.eq_iff_iff, beq_iff_eq, decide_eq_true_eq]; omega
           have HQB : Hid (∀ last, RdS.badC false last c = (RdS.special c || c == 0 || (c == 32 && last))) := hZ9 (fun last => by unfold RdS.badC; simp)
           clear hem
           generalize decide (k + 1 = l.length) = ql at *
           by_cases hz : c = 0
           · have ez : ((c.toNat : Int) == 0) = true := by rw [hz]; rfl
             have HN : Hid (RdS.readS l = none) := hZ9 (HBAD.out (by rw [HQB.out, hz]; simp))
             clear hz
             go_wp2_with fail
             go_ret2
             exact ValRet.none HN.out hb
           · have HZ := hZ9 hz
             have ez : ((c.toNat : Int) == 0) = false := beq_eq_false_iff_ne.2 (fun h => HZ.out (u8_is rfl h))
             clear hz
             have hib := fun w => Tryz.strings_IndexByte ⟨#[44, 43, 34, 92, 60, 62, 59]⟩ (c.toNat : Int) w
             have hd1 : (⟨#[44, 43, 34, 92, 60, 62, 59]⟩ : ByteArray).data.toList = RdS.specials := rfl
             have hd2 : ((c.toNat : Int).toNat.toUInt8) = c := by rw [Int.toNat_natCast]; exact UInt8.ofNat_toNat
             rw [hd1, hd2] at hib
             clear hd1 hd2
             have HIX := hZ9 (special_index c)
             generalize Lib.indexByte RdS.specials c = ix at *
             replace hib := fun w => (hib w).mono (fun e w' (h : _ /\ _) => (⟨h.1, h.2.symm⟩ : e = .returned (.int .i64 ix) /\ w = w'))
             by_cases hix : 0 <= ix
             · have HN : Hid (RdS.readS l = none) := hZ9 (HBAD.out (by rw [HQB.out, <- HIX.out, decide_eq_true hix]; simp))
               go_wp2_with fail
               refine (hib _).mono ?_; rintro e w0 ⟨rfl, rfl⟩
               go_wp2_with fail
               go_ret2
               exact ValRet.none HN.out hb
             · have hixn : decide (0 <= ix) = false := decide_eq_false hix
               have HS : Hid (RdS.special c = false) := hZ9 (by rw [<- HIX.out]; exact hixn)
               clear hix
               by_cases hbl32 : c = 32
               · have e32 : ((c.toNat : Int) == 32) = true := by rw [hbl32]; rfl
                 cases ql with
                 | true =>
                  have HN : Hid (RdS.readS l = none) := hZ9 (HBAD.out (by rw [HQB.out, hbl32]; simp))
                  clear hbl32
                  go_wp2_with fail
                  refine (hib _).mono ?_; rintro e w0 ⟨rfl, rfl⟩
                  go_wp2_with fail
                  go_ret2
                  exact ValRet.none HN.out hb
                 | false =>
                  have HE := hZ9 (HOK.out (by rw [HQB.out, HS.out, hbl32]; rfl))
                  clear hbl32
                  go_wp2_with fail
                  refine (hib _).mono ?_; rintro e w0 ⟨rfl, rfl⟩
                  go_wp2_with fail
                  refine (writeByte_c w.heap.size w.heap.size acc c _ hbl (by omega) (by omega)).mono ?_
                  rintro e w1 ⟨rfl, hu, hb1⟩
                  go_wp2_with fail
                  go_roundw
                  case rel => exact HFIN.out (k + 1) c _ _ (by omega) (by omega) (by go_num) HE.out hu (hb.trans hb1)
                  case measure => simp [intOf]; omega
               · have H32 := hZ9 hbl32
                 have e32 : ((c.toNat : Int) == 32) = false := beq_eq_false_iff_ne.2 (fun h => H32.out (u8_is rfl h))
                 have HE := hZ9 (HOK.out (by rw [HQB.out, HS.out, show (c == 0) = false from by simpa using HZ.out, show (c == 32) = false from by simpa using H32.out]; rfl))
                 clear hbl32
                 go_wp2_with fail
                 refine (hib _).mono ?_; rintro e w0 ⟨rfl, rfl⟩
                 go_wp2_with fail
                 refine (writeByte_c w.heap.size w.heap.size acc c _ hbl (by omega) (by omega)).mono ?_
                 rintro e w1 ⟨rfl, hu, hb1⟩
                 go_wp2_with fail
                 go_roundw
                 case rel => exact HFIN.out (k + 1) c _ _ (by omega) (by omega) (by go_num) HE.out hu (hb.trans hb1)
                 case measure => simp [intOf]; omega
       · have hnil : l.drop k = [] := List.drop_of_length_le (by omega)
         have HN : Hid (RdS.readS l = some acc) := hZ9 (by rw [HSP.out, hnil]; simp [RdS.readL])
         have hst := Tryz.Builder_String_any w.heap.size w.heap.size acc wr (by first | exact hbl | simpa [Bld, byteV, Lib.byteCells] using hbl) (by omega)
         clear hnil
         go_wp2_with fail
         refine hst.mono ?_; rintro e w1 ⟨rfl, hb1⟩
         go_wp2_with fail
         go_ret2
         exact ⟨by rw [HN.out]; rfl, hb.trans hb1⟩
end
end Go.Proofs.YtjmfknfponjgkaaGreatDoor
