/- The walks of how a filter's value is written: escape and sign, the program's and the document's. Conditions: as stated. -/
import Derived.Test.YtjmfknfponjgkaaGreatDoorJFih
import Derived.Test.YtjmfknfponjgkaaGreatDoorJRdf
set_option maxRecDepth 100000
set_option maxHeartbeats 8000000
namespace Go.Proofs.YtjmfknfponjgkaaGreatDoor
section
namespace FiS
theorem four_index (c : UInt8) : decide (0 <= Lib.indexByte [42, 40, 41, 92] c) = [42, 40, 41, 92].contains c := by
 have h := RuS.indexByte_none [42, 40, 41, 92] c
 rw [Bool.eq_iff_iff, decide_eq_true_eq, List.contains_iff_mem]
 constructor
 · intro h1; exact Decidable.byContradiction fun hn => by have := h.2 hn; omega
 · intro h1; have : ¬ Lib.indexByte [42, 40, 41, 92] c < 0 := fun hn => h.1 hn h1
   omega
end FiS
open Go.RowKit
open FiS (Fi)
attribute [local go_sem ↓] Go.wp_at_zero Go.wp_at_succ
end
section
namespace FiS
open RdS
theorem unesc_hex {a b : UInt8} {x y : Nat} {q : List UInt8} (h1 : hexOf a = some x) (h2 : hexOf b = some y) : unescV (92 :: a :: b :: q) = (unescV q).map (UInt8.ofNat (16 * x + y) :: ·) := by
 rw [unescV, if_pos rfl]
 simp only [h1, h2]
theorem unesc_nohex {a b : UInt8} {q : List UInt8} (h : hexOf a = none \/ hexOf b = none) : unescV (92 :: a :: b :: q) = none := by
 rw [unescV, if_pos rfl]
 rcases h with h | h
 · simp only [h]
 · simp only [h]
   cases hexOf a <;> rfl
theorem unesc_short {r : List UInt8} (h : r.length < 2) : unescV (92 :: r) = none := by
 match r, h with
 | [], _ => rfl
 | [a], _ => rfl
 | a :: b :: q, h => simp only [List.length_cons] at h; omega
theorem unesc_bad {c : UInt8} {r : List UInt8} (h : c ≠ 92) (h2 : bad c = true) : unescV (c :: r) = none := by
 rw [unescV.eq_def]; simp only [if_neg h, h2, if_true]
theorem unesc_plain {c : UInt8} {r : List UInt8} (h : c ≠ 92) (h2 : bad c = false) : unescV (c :: r) = (unescV r).map (c :: ·) := by
 rw [unescV.eq_def]; simp only [if_neg h, h2, Bool.false_eq_true, if_false]
end FiS
open Go.RowKit
attribute [local go_sem ↓] Go.wp_at_zero Go.wp_at_succ
theorem fldigit_c (c : UInt8) (w : World) : Calls Tryz.prog 96 #[.int .u8 (c.toNat : Int)] w fun e w' => e = .returned (.int .i64 (RdS.hexI c)) /\ Below w.heap.size w w' := by
 have hlow := fun w => lower_c ⟨#[c]⟩ (by show 1 <= _; decide) w
 unfold LowRet at hlow
 have hl1 : (RuS.lower (⟨#[c]⟩ : ByteArray).data.toList) = [RuS.lowC c] := rfl
 rw [hl1] at hlow
 have hib := fun w => Tryz.strings_IndexByte ⟨#[48, 49, 50, 51, 52, 53, 54, 55, 56, 57, 97, 98, 99, 100, 101, 102]⟩ ((RuS.lowC c).toNat : Int) w
 have hd1 : (⟨#[48, 49, 50, 51, 52, 53, 54, 55, 56, 57, 97, 98, 99, 100, 101, 102]⟩ : ByteArray).data.toList = RdS.hexL := rfl
 have hd2 : (((RuS.lowC c).toNat : Int).toNat.toUInt8) = RuS.lowC c := by rw [Int.toNat_natCast]; exact UInt8.ofNat_toNat
 rw [hd1, hd2, RdS.hexI_low] at hib
 clear hd1 hd2 hl1
 have hconv : (convert 61 9 (.slice (some ⟨w.heap.size, 0, none⟩) 1 1)).run Tryz.prog (w.alloc (.cells #[.int .u8 (c.toNat : Int)] 5)) = .ok (.string ⟨#[c]⟩) (w.alloc (.cells #[.int .u8 (c.toNat : Int)] 5)) := by
  refine run_convert_bytes_back (w.alloc (.cells #[.int .u8 (c.toNat : Int)] 5)) _ _ 5 ⟨w.heap.size, 0, none⟩ 1 [c] Tryz.underlying61 Tryz.underlying5 Tryz.underlying9 fun j hj => ?_
  have : j = 0 := by simp at hj; exact hj
  subst this
  have hadd : (⟨w.heap.size, 0, none⟩ : Addr).add 0 = ⟨w.heap.size, 0, none⟩ := by unfold Addr.add; split <;> simp_all
  rw [hadd]
  simp [go_sem]
 generalize RuS.lowC c = d at *
 generalize RdS.hexI c = r at *
 go_enter Tryz.func96, Tryz.ntmps96
 go_wp2_with fail
 refine (hlow _).mono ?_; rintro e w1 ⟨rfl, hb1⟩
 go_wp2_with fail
 refine (hib _).mono ?_; rintro e w2 ⟨rfl, rfl⟩
 go_wp2_with fail
 go_ret
 exact ⟨rfl, (grow1 w _).trans (hb1.mono (by simp))⟩
def UnRet (l : List UInt8) (w : World) (e : Ending) (w' : World) : Prop := e = .returned (.tuple #[.string ⟨((FiS.unescV l).getD []).toArray⟩, .bool (FiS.unescV l).isSome]) /\ Below w.heap.size w w'
theorem UnRet.none {l : List UInt8} {w w' : World} (h : FiS.unescV l = none) (hb : Below w.heap.size w w') : UnRet l w (.returned (.tuple #[.string ⟨#[]⟩, .bool false])) w' := by
 unfold UnRet; rw [h]; exact ⟨rfl, hb⟩
theorem UnRet.some {l acc : List UInt8} {w w' : World} (h : FiS.unescV l = some acc) (hb : Below w.heap.size w w') : UnRet l w (.returned (.tuple #[.string ⟨acc.toArray⟩, .bool true])) w' := by
 unfold UnRet; rw [h]; exact ⟨rfl, hb⟩
def UnLoop (l : List UInt8) (w : World) (i : Value) (wr : World) : Prop :=
 ∃ (k : Nat) (acc : List UInt8), k <= l.length /\ i = .int .i64 k /\ Bld w.heap.size w.heap.size acc wr /\ acc.length <= k /\ FiS.unescV l = (FiS.unescV (l.drop k)).map (acc ++ ·) /\ Below w.heap.size w wr
theorem unescape_c (l : List UInt8) (hl : l.length <= 1000000) (w : World) : Calls Tryz.prog 73 #[.string ⟨l.toArray⟩] w (UnRet l w) := by
 go_enter Tryz.func73, Tryz.ntmps73
 go_wp2_with fail
 go_loopw [5] (fun i wr => UnLoop l w i wr) (fun i _ => l.length - (intOf i).toNat)
 case atStart => exact ⟨0, [], Nat.zero_le _, rfl, Bld.fresh w, Nat.zero_le _, by rw [List.drop_zero]; simp, grow1 w _⟩
 case round =>
  obtain ⟨k, acc, hk, rfl, hbl, hacc, hsp, hb⟩ := hrel
  have HK := hZ9 hk
  have HSP := hZ9 hsp
  have hsz := hb.size
  clear hsp hk
  by_cases hlt : k < l.length
  · have HD := hZ9 (List.drop_eq_getElem_cons hlt)
    generalize hcq : l[k] = c at *
    have hq2 : ∀ h, (⟨l.toArray⟩ : ByteArray)[k]'h = c := fun _ => hcq
    clear hcq
    have HNONE : Hid (FiS.unescV (l.drop k) = none -> FiS.unescV l = none) := hZ9 (fun h => by rw [HSP.out, h]; rfl)
    have HFIN : Hid (∀ (k2 : Nat) (x : UInt8) (i : Value) (w2 : World), k2 <= l.length -> k < k2 -> i = .int .i64 k2 -> FiS.unescV (l.drop k) = (FiS.unescV (l.drop k2)).map (x :: ·) -> BldU w.heap.size w.heap.size (acc ++ [x]) w2 -> Below w.heap.size w w2 -> UnLoop l w i w2) :=
     hZ9 (fun k2 x i w2 h1 h2 hi h3 h4 h5 => ⟨k2, acc ++ [x], h1, hi, h4.bld, by simp; omega, by rw [HSP.out, h3, Option.map_map]; congr 1; funext y; simp, h5⟩)
    have hib := fun w => Tryz.strings_IndexByte ⟨#[42, 40, 41, 92]⟩ (c.toNat : Int) w
    have hd1 : (⟨#[42, 40, 41, 92]⟩ : ByteArray).data.toList = [42, 40, 41, 92] := rfl
    have hd2 : ((c.toNat : Int).toNat.toUInt8) = c := by rw [Int.toNat_natCast]; exact UInt8.ofNat_toNat
    rw [hd1, hd2] at hib
    clear hd1 hd2
    have HIX := hZ9 (FiS.four_index c)
    generalize Lib.indexByte [42, 40, 41, 92] c = ix at *
    replace hib := fun w => (hib w).mono (fun e w' (h : _ /\ _) => (⟨h.1, h.2.symm⟩ : e = .returned (.int .i64 ix) /\ w = w'))
    have HBD : Hid (FiS.bad c = (decide (c.toNat < 32) || decide (126 < c.toNat) || [42, 40, 41, 92].contains c)) := hZ9 rfl
    by_cases h92 : c = 92
    · have HC9 := hZ9 h92
      have e92 : ((c.toNat : Int) == 92) = true := by rw [h92]; rfl
      have g1 : decide ((c.toNat : Int) < 32) = false := by rw [h92]; rfl
      have g2 : decide ((126 : Int) < (c.toNat : Int)) = false := by rw [h92]; rfl
      have g3 : decide (0 <= ix) = true := by rw [HIX.out, h92]; rfl
      clear h92 HBD HIX
      by_cases hk2 : k + 2 < l.length
      · have hk1 : k + 1 < l.length := by omega
        have HD1 := hZ9 (List.drop_eq_getElem_cons hk1)
        generalize hdq : l[k + 1] = d at *
        have hq3 : ∀ h, (⟨l.toArray⟩ : ByteArray)[k + 1]'h = d := fun _ => hdq
        clear hdq
        have hk1z : (k : Int) + 1 < (l.length : Int) := by omega
        have HD2 := hZ9 (List.drop_eq_getElem_cons hk2)
        generalize hfq : l[k + 2] = f at *
        have hq4 : ∀ h, (⟨l.toArray⟩ : ByteArray)[k + 2]'h = f := fun _ => hfq
        clear hfq
        have hk2z : (k : Int) + 2 < (l.length : Int) := by omega
        have hdd := fun w => fldigit_c d w
        have hdf := fun w => fldigit_c f w
        rcases RdS.hexI_cases d with ⟨hn, hv⟩ | ⟨x, hx, hxv, hx16⟩
        · rw [hv] at hdd
          have HN : Hid (FiS.unescV l = none) := hZ9 (HNONE.out (by rw [HD.out, HC9.out, HD1.out, show k + 1 + 1 = k + 2 from rfl, HD2.out, FiS.unesc_nohex (.inl hn)]))
          clear hn hv hdf
          go_wp2_with fail
          refine (hdd _).mono ?_; rintro e w1 ⟨rfl, hb1⟩
          go_wp2_with fail
          refine (hib _).mono ?_; rintro e w0 ⟨rfl, rfl⟩
          go_wp2_with fail
          go_ret2
          exact UnRet.none HN.out (hb.trans (hb1.mono (by omega)))
        · rcases RdS.hexI_cases f with ⟨hn, hv⟩ | ⟨y, hy, hyv, hy16⟩
          · rw [hxv] at hdd
            rw [hv] at hdf
            have HN : Hid (FiS.unescV l = none) := hZ9 (HNONE.out (by rw [HD.out, HC9.out, HD1.out, show k + 1 + 1 = k + 2 from rfl, HD2.out, FiS.unesc_nohex (.inr hn)]))
            clear hn hv hx hxv
            go_wp2_with fail
            refine (hdd _).mono ?_; rintro e w1 ⟨rfl, hb1⟩
            go_wp2_with fail
            refine (hdf _).mono ?_; rintro e w2 ⟨rfl, hb2⟩
            go_wp2_with fail
            refine (hib _).mono ?_; rintro e w0 ⟨rfl, rfl⟩
            go_wp2_with fail
            go_ret2
            exact UnRet.none HN.out (hb.trans ((below_trans hb1 hb2).mono (by omega)))
          · have HE : Hid (FiS.unescV (l.drop k) = (FiS.unescV (l.drop (k + 3))).map (UInt8.ofNat (16 * x + y) :: ·)) := hZ9 (by
             rw [HD.out, HC9.out, HD1.out, show k + 1 + 1 = k + 2 from rfl, HD2.out, FiS.unesc_hex hx hy])
            have hor := or16 hx16 hy16
            have HT : Hid (((UInt8.ofNat (16 * x + y)).toNat : Int) = ((16 * x + y : Nat) : Int)) := hZ9 (by rw [UInt8.toNat_ofNat']; omega)
            obtain ⟨z, hz⟩ : ∃ z : UInt8, z = UInt8.ofNat (16 * x + y) := ⟨_, rfl⟩
            rw [<- hz] at HE HT
            have hor2 : bits .or .i64 ((x : Int) * 16) (y : Int) = (z.toNat : Int) := by rw [hor, HT.out]
            have hz256 := z.toNat_lt
            clear hx hy hor hz HT hib
            rw [hxv] at hdd
            rw [hyv] at hdf
            go_wp2_with fail
            refine (hdd _).mono ?_; rintro e w1 ⟨rfl, hb1⟩
            go_wp2_with fail
            refine (hdf _).mono ?_; rintro e w2 ⟨rfl, hb2⟩
            go_wp2_with fail
            have hbl2 := ((hbl.call hb1).call hb2).drew
            have hbt : Below w.heap.size w w2.drew := (hb.trans ((below_trans hb1 hb2).mono (by omega))).drew
            clear hbl hb1 hb2 hb
            have hsz2 := hbt.size
            have hwz : IntKind.u8.wrap (z.toNat : Int) = (z.toNat : Int) := by rw [IntKind.wrap_u8]; omega
            have hwx : IntKind.i64.wrap ((x : Int) * 16) = (x : Int) * 16 := by rw [IntKind.wrap_i64]; omega
            have j1 : (0 : Int) <= (k : Int) + 1 := by omega
            have j2 : (0 : Int) <= (k : Int) + 2 := by omega
            have t1 : ((k : Int) + 1).toNat = k + 1 := by omega
            have t2 : ((k : Int) + 2).toNat = k + 2 := by omega
            have w1' : IntKind.i64.wrap ((k : Int) + 1) = (k : Int) + 1 := by rw [IntKind.wrap_i64]; omega
            have w2' : IntKind.i64.wrap ((k : Int) + 2) = (k : Int) + 2 := by rw [IntKind.wrap_i64]; omega
            have HDD := hZ9 hdd
            have HDF := hZ9 hdf
            clear hdd hdf
            go_region_held3 (fun _ => True) (trivial)
             (first
               | (go_at_call 96; (with_reducible refine (fldigit_c _ _).mono ?_); rintro e w1 ⟨rfl, hb1⟩; replace hbl2 := hbl2.call hb1; replace hbt := hbt.trans (hb1.mono hbt.size))
               | (go_at_call 41; (with_reducible refine (writeByte_c w.heap.size w.heap.size acc z _ hbl2 (by omega) hbt.size).mono ?_); rintro e w3 ⟨rfl, hu, hb3⟩))
            all_goals go_wp2_with fail
            all_goals go_roundw
            all_goals first | (simp [intOf]; omega) | exact HFIN.out (k + 3) z _ _ (by omega) (by omega) (by go_num) HE.out hu (hbt.trans hb3)
      · have hk2z : decide ((k : Int) + 2 < (l.length : Int)) = false := decide_eq_false (by omega)
        have HN : Hid (FiS.unescV l = none) := hZ9 (HNONE.out (by rw [HD.out, HC9.out]; exact FiS.unesc_short (by rw [List.length_drop]; omega)))
        go_wp2_with fail
        refine (hib _).mono ?_; rintro e w0 ⟨rfl, rfl⟩
        go_wp2_with fail
        go_ret2
        exact UnRet.none HN.out hb
    · have HC9 := hZ9 h92
      have e92 : ((c.toNat : Int) == 92) = false := beq_eq_false_iff_ne.2 (fun h => HC9.out (u8_is rfl h))
      clear h92
      have h4 : (FiS.bad c = true /\ decide ((c.toNat : Int) < 32) = true) \/ (FiS.bad c = true /\ decide ((c.toNat : Int) < 32) = false /\ decide ((126 : Int) < (c.toNat : Int)) = true) \/ (FiS.bad c = true /\ decide ((c.toNat : Int) < 32) = false /\ decide ((126 : Int) < (c.toNat : Int)) = false /\ decide (0 <= ix) = true) \/ (FiS.bad c = false /\ decide ((c.toNat : Int) < 32) = false /\ decide ((126 : Int) < (c.toNat : Int)) = false /\ decide (0 <= ix) = false) := by
       rw [HBD.out, HIX.out]
       have e1 : decide ((c.toNat : Int) < 32) = decide (c.toNat < 32) := decide_eq_decide.2 (by omega)
       have e2 : decide ((126 : Int) < (c.toNat : Int)) = decide (126 < c.toNat) := decide_eq_decide.2 (by omega)
       rw [e1, e2]
       cases decide (c.toNat < 32) <;> cases decide (126 < c.toNat) <;> cases [42, 40, 41, 92].contains c <;> simp
      clear HBD HIX
      rcases h4 with ⟨hbd, g1⟩ | ⟨hbd, g1, g2⟩ | ⟨hbd, g1, g2, g3⟩ | ⟨hbd, g1, g2, g3⟩
      · have HN : Hid (FiS.unescV l = none) := hZ9 (HNONE.out (by rw [HD.out]; exact FiS.unesc_bad HC9.out hbd))
        clear hbd hib
        go_wp2_with fail
        go_ret2
        exact UnRet.none HN.out hb
      · have HN : Hid (FiS.unescV l = none) := hZ9 (HNONE.out (by rw [HD.out]; exact FiS.unesc_bad HC9.out hbd))
        clear hbd hib
        go_wp2_with fail
        go_ret2
        exact UnRet.none HN.out hb
      · have HN : Hid (FiS.unescV l = none) := hZ9 (HNONE.out (by rw [HD.out]; exact FiS.unesc_bad HC9.out hbd))
        clear hbd
        go_wp2_with fail
        refine (hib _).mono ?_; rintro e w9 ⟨rfl, rfl⟩
        go_wp2_with fail
        go_ret2
        exact UnRet.none HN.out hb
      · have HE : Hid (FiS.unescV (l.drop k) = (FiS.unescV (l.drop (k + 1))).map (c :: ·)) := hZ9 (by rw [HD.out]; exact FiS.unesc_plain HC9.out hbd)
        clear hbd
        go_wp2_with fail
        refine (hib _).mono ?_; rintro e w9 ⟨rfl, rfl⟩
        go_wp2_with fail
        refine (writeByte_c w.heap.size w.heap.size acc c _ hbl (by omega) (by omega)).mono ?_
        rintro e w1 ⟨rfl, hu, hb1⟩
        go_wp2_with fail
        go_roundw
        case rel => exact HFIN.out (k + 1) c _ _ (by omega) (by omega) (by go_num) HE.out hu (hb.trans hb1)
        case measure => simp [intOf]; omega
  · have hkn : k = l.length := by have := HK.out; omega
    subst hkn
    have HN : Hid (FiS.unescV l = some acc) := hZ9 (by rw [HSP.out, List.drop_length]; simp [FiS.unescV])
    have hst := Tryz.Builder_String_any w.heap.size w.heap.size acc wr hbl (by omega)
    clear hbl
    go_wp2_with fail
    refine hst.mono ?_; rintro e w1 ⟨rfl, hb1⟩
    go_wp2_with fail
    go_ret2
    exact UnRet.some HN.out (hb.trans hb1)
end
end Go.Proofs.YtjmfknfponjgkaaGreatDoor
