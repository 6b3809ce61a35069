/- The walks of the document's 'text' and 'Integer'. Conditions: as stated. -/
import Derived.Deep.DeepCutAuto
import Derived.Test.YtjmfknfponjgkaaGreatDoorJRuS
import Derived.Test.YtjmfknfponjgkaaGreatDoorJMem
import Derived.Test.YtjmfknfponjgkaaGreatDoorJRub
import Derived.Test.YtjmfknfponjgkaaGreatDoorJPhc
import Derived.Test.YtjmfknfponjgkaaGreatDoorJRue
set_option maxRecDepth 100000
set_option maxHeartbeats 1000000
namespace Go.Proofs.YtjmfknfponjgkaaGreatDoor
section
open Go.RowKit
def textR (l : List UInt8) : List UInt8 := if RuS.hasNul l then [] else RuS.textS l
def TextRet (l : List UInt8) (w : World) (e : Ending) (w' : World) : Prop := e = .returned (.string ⟨(textR l).toArray⟩) /\ Below w.heap.size w w'
def TextLoop (lo : List UInt8) (w0 : World) (out gap i : Value) (wr : World) : Prop :=
 ∃ k : Nat, k <= lo.length /\ i = .int .i64 k /\ gap = .bool (RuS.gapB (lo.take k)) /\ OwnB wr w0.heap.size out (Lib.join (RuS.wordsL (lo.take k)) [32]) /\ (∀ c ∈ lo.take k, c ≠ 0) /\ Below w0.heap.size w0 wr
theorem nul_lower (l : List UInt8) : RuS.hasNul l = decide ((0 : UInt8) ∈ RuS.lower l) := by
 unfold RuS.hasNul
 exact decide_eq_decide.2 (RuS.lower_zero l).symm
theorem reftext_c (s : ByteArray) (hs : s.size <= 1000000) (w : World) : Calls Tryz.prog 83 #[.string s] w (TextRet s.data.toList w) := by
 have hl := fun w => reflower_c s (by omega) w
 unfold LowRet at hl
 have hlen := RuS.lower_length s.data.toList
 rw [<- Lib.size_eq] at hlen
 have HT : Hid (RuS.textS s.data.toList = Lib.join (RuS.wordsL (RuS.lower s.data.toList)) [32]) := hZ9 rfl
 have HZ := hZ9 (nul_lower s.data.toList)
 generalize RuS.lower s.data.toList = lo at *
 have hlo : lo.length <= 1000000 := by omega
 clear hlen
 go_enter Tryz.func83, Tryz.ntmps83
 go_wp2_with fail
 refine (hl _).mono ?_; rintro e w0 ⟨rfl, hb0⟩
 go_wp2_with fail
 go_loopw [3, 4, 6] (fun out gap i wr => TextLoop lo w0 out gap i wr) (fun _ _ i _ => lo.length - (intOf i).toNat)
 case atStart => exact ⟨0, Nat.zero_le _, rfl, rfl, OwnB.empty _ _, by simp, Below.refl _ _⟩
 case round =>
  obtain ⟨k, hk, rfl, rfl, hown, hnz, hb⟩ := hrel
  have HNZ := hZ9 hnz
  clear hnz
  by_cases hlt : k < lo.length
  · have hjl := RuS.joinW_le (lo.take k)
    have htk : (lo.take k).length = k := by simp; omega
    rw [htk] at hjl
    have HJ := hZ9 hjl
    have hj2 : (Lib.join (RuS.wordsL (lo.take k)) [32]).length <= 1000000 := by omega
    clear hjl htk
    have HS : Hid (lo.take (k + 1) = lo.take k ++ [lo[k]]) := hZ9 (List.take_succ_eq_append_getElem hlt)
    have HM : Hid (lo[k] ∈ lo) := hZ9 (List.getElem_mem hlt)
    have HG : Hid (RuS.gapB (lo.take k ++ [lo[k]]) = (lo[k] == 32)) := hZ9 (RuS.gap_snoc _ _)
    have HBL : Hid (Lib.join (RuS.wordsL (lo.take k ++ [32])) [32] = Lib.join (RuS.wordsL (lo.take k)) [32]) := hZ9 (by rw [RuS.wordsL_blank])
    have HLE := hZ9 (fun (h : lo[k] ≠ 32) => RuS.wordsL_letter (lo.take k) h)
    generalize hcq : lo[k] = c at *
    have hq2 : ∀ h, (⟨lo.toArray⟩ : ByteArray)[k]'h = c := fun _ => hcq
    clear hcq
    generalize Lib.join (RuS.wordsL (lo.take k)) [32] = acc at *
    generalize RuS.gapB (lo.take k) = gp at *
    by_cases c0 : (c.toNat : Int) = 0
    · have HN : Hid (textR s.data.toList = []) := hZ9 (by
       unfold textR
       rw [HZ.out, decide_eq_true (by have h1 := HM.out; rw [u8_of (n := 0) (by decide) c0] at h1; exact h1)]; rfl)
      have kz : ((c.toNat : Int) == 0) = true := beq_iff_eq.2 c0
      clear c0
      go_wp2_with fail
      go_ret
      exact ⟨by rw [HN.out]; rfl, hb0.trans (hb.mono hb0.size)⟩
    · have H0 : Hid (c ≠ 0) := hZ9 (fun e => c0 (by rw [e]; rfl))
      have k0 : ((c.toNat : Int) == 0) = false := beq_eq_false_iff_ne.2 c0
      have hz1 : ∀ x ∈ lo.take (k + 1), x ≠ 0 := by
       intro x hx
       rw [HS.out] at hx
       rcases List.mem_append.1 hx with hx | hx
       · exact HNZ.out x hx
       · rw [List.mem_singleton.1 hx]; exact H0.out
      have HZ1 := hZ9 hz1
      clear c0 hz1
      by_cases c32 : (c.toNat : Int) = 32
      · have HC : Hid (c = 32) := hZ9 (u8_of (n := 32) (by decide) c32)
        have k32 : ((c.toNat : Int) == 32) = true := beq_iff_eq.2 c32
        clear c32
        go_wp2_with fail
        go_roundw
        case rel =>
         refine ⟨k + 1, by omega, by go_num, ?_, ?_, HZ1.out, hb⟩
         · rw [HS.out, HG.out, HC.out]; rfl
         · rw [HS.out, HC.out, HBL.out]; exact hown
        case measure => simp [intOf]; omega
      · have HC : Hid (c ≠ 32) := hZ9 (fun e => c32 (by rw [e]; rfl))
        have k32 : ((c.toNat : Int) == 32) = false := beq_eq_false_iff_ne.2 c32
        clear c32
        have HG2 : Hid (RuS.gapB (lo.take k ++ [c]) = false) := hZ9 (by rw [HG.out]; simpa using HC.out)
        cases gp with
        | false =>
         have HJN : Hid (Lib.join (RuS.wordsL (lo.take k ++ [c])) [32] = acc ++ [c]) := hZ9 (by rw [HLE.out HC.out]; simp)
         go_wp2_with (at_builtin; refine push_bytes (by rfl) _ _ (by rfl) w0.heap.size _ acc (by rfl) (hown.alloc _) wr.heap.size 1 1 (by rfl) [c] (by rfl) ?c1 ?c2 ?c3 ?_)
         case c1 => first | exact one_cell (by simp [go_sem, byteV]) | exact one_list _
         case c2 => omega
         case c3 => have := hb.size; simp; omega
         intro v' w2 hown2 hb2
         go_wp2_with fail
         go_roundw
         case rel =>
          refine ⟨k + 1, by omega, by go_num, ?_, ?_, HZ1.out, (hb.alloc hb.size _).trans hb2⟩
          · rw [HS.out, HG2.out]
          · rw [HS.out, HJN.out]; exact hown2
         case measure => simp [intOf]; omega
        | true =>
         obtain ⟨a, cp, rfl⟩ := hown.form
         by_cases hacc : acc = []
         · have hemp : acc.length = 0 := by rw [hacc]; rfl
           have HJN : Hid (Lib.join (RuS.wordsL (lo.take k ++ [c])) [32] = acc ++ [c]) := hZ9 (by rw [HLE.out HC.out, hacc]; rfl)
           have hd0 : decide ((0 : Int) < (acc.length : Int)) = false := decide_eq_false (by omega)
           have HA := hZ9 hacc
           have HEM : acc.length <= 0 := by omega
           clear hacc hemp
           go_wp2_with (at_builtin; refine push_bytes (by rfl) _ _ (by rfl) w0.heap.size _ acc (by rfl) (hown.alloc _) wr.heap.size 1 1 (by rfl) [c] (by rfl) ?d1 ?d2 ?d3 ?_)
           case d1 => first | exact one_cell (by simp [go_sem, byteV]) | exact one_list _
           case d2 => omega
           case d3 => have := hb.size; simp; omega
           intro v' w2 hown2 hb2
           go_wp2_with fail
           go_roundw
           case rel =>
            refine ⟨k + 1, by omega, by go_num, ?_, ?_, HZ1.out, (hb.alloc hb.size _).trans hb2⟩
            · rw [HS.out, HG2.out]
            · rw [HS.out, HJN.out]; exact hown2
           case measure => simp [intOf]; omega
         · have hpos : 0 < acc.length := List.length_pos_iff.2 hacc
           have HJN : Hid (Lib.join (RuS.wordsL (lo.take k ++ [c])) [32] = acc ++ [32] ++ [c]) := hZ9 (by
            rw [HLE.out HC.out]
            have : acc.isEmpty = false := by cases acc with
             | nil => exact absurd rfl hacc
             | cons a b => rfl
            rw [this]; rfl)
           have hd0 : decide ((0 : Int) < (acc.length : Int)) = true := decide_eq_true (by omega)
           clear hacc
           go_wp2_with (at_builtin; refine push_bytes (by rfl) _ _ (by rfl) w0.heap.size _ acc (by rfl) (hown.alloc _) wr.heap.size 1 1 (by rfl) [32] (by rfl) ?e1 ?e2 ?e3 ?_)
           case e1 => first | exact one_cell (by simp [go_sem, byteV]) | exact one_list _
           case e2 => omega
           case e3 => have := hb.size; simp; omega
           intro v' w2 hown2 hb2
           have hb3 := (hb.alloc hb.size (.cells #[.int .u8 32] 5)).trans hb2
           go_wp2_with (at_builtin; refine push_bytes (by rfl) _ _ (by rfl) w0.heap.size _ (acc ++ [32]) (by rfl) (hown2.alloc _) w2.heap.size 1 1 (by rfl) [c] (by rfl) ?f1 ?f2 ?f3 ?_)
           case f1 => first | exact one_cell (by simp [go_sem, byteV]) | exact one_list _
           case f2 => simp; omega
           case f3 => have := hb3.size; simp; omega
           intro v2 w3 hown3 hb4
           go_wp2_with fail
           go_roundw
           case rel =>
            refine ⟨k + 1, by omega, by go_num, ?_, ?_, HZ1.out, (hb3.alloc hb3.size _).trans hb4⟩
            · rw [HS.out, HG2.out]
            · rw [HS.out, HJN.out, show acc ++ [32] ++ [c] = acc ++ [32, c] from by simp]; exact hown3
           case measure => simp [intOf]; omega
  · have hall : lo.take k = lo := List.take_of_length_le (by omega)
    rw [hall] at hown
    have HN : Hid (textR s.data.toList = Lib.join (RuS.wordsL lo) [32]) := hZ9 (by
     unfold textR
     rw [HZ.out, decide_eq_false (fun h => HNZ.out 0 (by rw [hall]; exact h) rfl), HT.out]; rfl)
    clear hall
    have hback := hown.back
    go_wp2_with fail
    go_ret
    exact ⟨by rw [HN.out]; rfl, hb0.trans (hb.mono hb0.size)⟩
def IntRet (l : List UInt8) (w : World) (e : Ending) (w' : World) : Prop := e = .returned (.tuple #[.int .i64 ((RuS.intR l).getD 0), .bool (RuS.intR l).isSome]) /\ w = w'
theorem IntRet.yes {l : List UInt8} {w : World} {v : Int} (h : RuS.intR l = some v) : IntRet l w (.returned (.tuple #[.int .i64 v, .bool true])) w := by
 unfold IntRet; rw [h]; exact ⟨rfl, rfl⟩
theorem IntRet.no {l : List UInt8} {w : World} (h : RuS.intR l = none) : IntRet l w (.returned (.tuple #[.int .i64 0, .bool false])) w := by
 unfold IntRet; rw [h]; exact ⟨rfl, rfl⟩
theorem intR_none {l d : List UInt8} {neg : Bool} (hn : (l.head? == some 45) = neg) (hd : (if neg = true then l.tail else l) = d)
  (h : d.length < 1 \/ 18 < d.length \/ (d.head? = some 48 /\ (1 < d.length \/ neg = true)) \/ d.all PhS.isDig = false) : RuS.intR l = none := by
 unfold RuS.intR
 simp only [hn, hd]
 rw [if_pos h]
theorem intR_val {l d : List UInt8} {neg : Bool} (hn : (l.head? == some 45) = neg) (hd : (if neg = true then l.tail else l) = d)
  (h : ¬ (d.length < 1 \/ 18 < d.length \/ (d.head? = some 48 /\ (1 < d.length \/ neg = true)) \/ d.all PhS.isDig = false)) : RuS.intR l = some (if neg = true then -(PhS.valFrom 0 d : Int) else PhS.valFrom 0 d) := by
 unfold RuS.intR
 simp only [hn, hd]
 rw [if_neg h]
def IntLoop (u : ByteArray) (n i : Value) : Prop := ∃ k : Nat, k <= u.size /\ i = .int .i64 k /\ n = .int .i64 (PhS.valFrom 0 (u.data.toList.take k)) /\ (u.data.toList.take k).all PhS.isDig = true
theorem integer_empty (s : ByteArray) (h0 : s.size = 0) (w : World) : Calls Tryz.prog 84 #[.string s] w (IntRet s.data.toList w) := by
 have hs : s = ByteArray.empty := by
  obtain ⟨⟨l⟩⟩ := s
  cases l with
  | nil => rfl
  | cons c r => have h1 : (c :: r).length = 0 := h0; cases h1
 subst hs
 go_enter Tryz.func84, Tryz.ntmps84
 go_wp2_with fail
 go_ret2
 exact IntRet.no rfl
theorem int_head {s : ByteArray} (h : 0 < s.size) (n : UInt8) : (s.data.toList.head? == some n) = decide (s[0] = n) := by
 rw [head_is h, Bool.eq_iff_iff, beq_iff_eq, decide_eq_true_eq]
 exact ⟨fun e => Option.some.inj e, fun e => by rw [e]⟩
theorem tail_is (s : ByteArray) : s.data.toList.tail = (s.extract 1 s.size).data.toList := by
 rw [Lib.extract_to_end]; simp
set_option linter.unusedVariables false in
theorem integer_pos (u : ByteArray) (h1 : 1 <= u.size) (hm : u.size <= 18) (c45 : ((u[0].toNat : Int) == 45) = false) (c48 : ((u[0].toNat : Int) == 48) = false \/ (((u[0].toNat : Int) == 48) = true /\ u.size <= 1)) (w : World) :
  Calls Tryz.prog 84 #[.string u] w (IntRet u.data.toList w) := by
 have k45 : ¬ (u[0].toNat : Int) = 45 := beq_eq_false_iff_ne.1 c45
 have hneg : (u.data.toList.head? == some 45) = false := by
  rw [int_head (by omega), decide_eq_false_iff_not]
  intro e; rw [e] at k45; exact k45 rfl
 have hl := Lib.size_eq u
 have NO := hZ9 (fun h => intR_none hneg (d := u.data.toList) rfl h)
 have h48 : ¬ (u.data.toList.head? = some 48 /\ (1 < u.data.toList.length \/ (false : Bool) = true)) := by
  rintro ⟨e, h⟩
  rcases c48 with c48 | c48
  · have := beq_eq_false_iff_ne.1 c48
    rw [head_is (by omega)] at e
    have e2 := Option.some.inj e
    rw [e2] at this
    exact this rfl
  · rcases h with h | h
    · omega
    · cases h
 have YES := hZ9 (fun (hd : u.data.toList.all PhS.isDig = true) => intR_val hneg (d := u.data.toList) rfl (by
  rintro (h | h | h | h)
  · omega
  · omega
  · exact h48 h
  · rw [hd] at h; cases h))
 replace NO := NO.out
 replace YES := YES.out
 have NOH := hZ9 NO
 have YESH := hZ9 YES
 clear NO YES k45 hneg hl h48
 rcases c48 with c48 | ⟨c48, c1⟩
 all_goals
  go_enter Tryz.func84, Tryz.ntmps84
  go_wp2_with fail
  clear c45 c48
  go_loop [6, 7] (fun n i => IntLoop u n i) (fun _ i => u.size - (intOf i).toNat)
  case atStart => exact ⟨0, Nat.zero_le _, rfl, rfl, rfl⟩
  case round =>
   obtain ⟨k, hk, rfl, rfl, hd⟩ := hrel
   have hv : PhS.valFrom 0 (u.data.toList.take k) < 1000000000000000000 := RuS.val18 hd (by simp; omega)
   by_cases hlt : k < u.size
   · have hv17 : PhS.valFrom 0 (u.data.toList.take k) < 100000000000000000 := by
      have h1 := PhS.valFrom_lt _ hd
      have h2 : (u.data.toList.take k).length <= 17 := by simp; omega
      have h3 : 10 ^ (u.data.toList.take k).length <= 10 ^ 17 := Nat.pow_le_pow_right (by decide) h2
      omega
     have HT := hZ9 (PhS.take_snoc u k hlt)
     have HD := hZ9 hd
     clear hd
     generalize hvv : PhS.valFrom 0 (u.data.toList.take k) = v at *
     have HV := hZ9 hvv
     clear hvv
     by_cases hdig : 48 <= (u[k].toNat : Int) /\ (u[k].toNat : Int) <= 57
     · have HG := hZ9 (dig_fact hdig)
       have HQ := hZ9 hdig
       obtain ⟨d1, d2⟩ := hdig
       go_wp2
       go_round
       case rel =>
        refine ⟨k + 1, by omega, by go_num, int_cast ?_, ?_⟩
        · rw [HT.out, PhS.valFrom_snoc, HV.out]
          have := HQ.out
          omega
        · rw [HT.out, List.all_append, HD.out]; simp [HG.out]
       case measure => simp [intOf]; omega
     · have hno := all_not u k hlt (dig_not hdig)
       have HN := hZ9 (NOH.out (.inr (.inr (.inr hno))))
       clear hno
       go_wp2
       all_goals go_ret2
       all_goals exact IntRet.no HN.out
   · have hku : k = u.size := by omega
     have hall : u.data.toList.take k = u.data.toList := List.take_of_length_le (by simp; omega)
     rw [hall] at hd hv ⊢
     have HY := hZ9 (YESH.out hd)
     clear hall hd
     generalize PhS.valFrom 0 u.data.toList = v at *
     subst hku
     go_wp2
     go_ret2
     exact IntRet.yes (by rw [HY.out]; rfl)
set_option linter.unusedVariables false in
theorem integer_neg (s u : ByteArray) (h1 : 1 <= s.size) (hu : s.extract 1 s.size = u) (hu1 : 1 <= u.size) (hm : u.size <= 18) (c45 : (s[0].toNat : Int) = 45) (c48 : ((u[0].toNat : Int) == 48) = false) (w : World) :
  Calls Tryz.prog 84 #[.string s] w (IntRet s.data.toList w) := by
 have hneg : (s.data.toList.head? == some 45) = true := by
  rw [int_head (by omega), decide_eq_true_eq]; exact u8_of (n := 45) (by decide) c45
 have hd0 : (if true = true then s.data.toList.tail else s.data.toList) = u.data.toList := by rw [if_pos rfl, tail_is, hu]
 have hl := Lib.size_eq u
 have NO := fun h => intR_none hneg hd0 h
 have h48 : ¬ u.data.toList.head? = some 48 := by
  intro e
  have := beq_eq_false_iff_ne.1 c48
  rw [head_is (by omega)] at e
  have e2 := Option.some.inj e
  rw [e2] at this
  exact this rfl
 have YES := fun (hd : u.data.toList.all PhS.isDig = true) => intR_val hneg hd0 (by
  rintro (h | h | h | h)
  · omega
  · omega
  · exact h48 h.1
  · rw [hd] at h; cases h)
 have NOH := hZ9 NO
 have YESH := hZ9 YES
 have hsu : u.size = s.size - 1 := by rw [<- hu]; simp
 have hs2 : 2 <= s.size := by omega
 clear NO YES hneg hl h48 hd0 hsu
 go_enter Tryz.func84, Tryz.ntmps84
 go_wp2_with fail
 clear c45 c48 hu
 go_loop [6, 7] (fun n i => IntLoop u n i) (fun _ i => u.size - (intOf i).toNat)
 case atStart => exact ⟨0, Nat.zero_le _, rfl, rfl, rfl⟩
 case round =>
  obtain ⟨k, hk, rfl, rfl, hd⟩ := hrel
  have hv : PhS.valFrom 0 (u.data.toList.take k) < 1000000000000000000 := RuS.val18 hd (by simp; omega)
  by_cases hlt : k < u.size
  · have hv17 : PhS.valFrom 0 (u.data.toList.take k) < 100000000000000000 := by
     have h1 := PhS.valFrom_lt _ hd
     have h2 : (u.data.toList.take k).length <= 17 := by simp; omega
     have h3 : 10 ^ (u.data.toList.take k).length <= 10 ^ 17 := Nat.pow_le_pow_right (by decide) h2
     omega
    have HT := hZ9 (PhS.take_snoc u k hlt)
    have HD := hZ9 hd
    clear hd
    generalize hvv : PhS.valFrom 0 (u.data.toList.take k) = v at *
    have HV := hZ9 hvv
    clear hvv
    by_cases hdig : 48 <= (u[k].toNat : Int) /\ (u[k].toNat : Int) <= 57
    · have HG := hZ9 (dig_fact hdig)
      have HQ := hZ9 hdig
      obtain ⟨d1, d2⟩ := hdig
      go_wp2
      go_round
      case rel =>
       refine ⟨k + 1, by omega, by go_num, int_cast ?_, ?_⟩
       · rw [HT.out, PhS.valFrom_snoc, HV.out]
         have := HQ.out
         omega
       · rw [HT.out, List.all_append, HD.out]; simp [HG.out]
      case measure => simp [intOf]; omega
    · have hno := all_not u k hlt (dig_not hdig)
      have HN := hZ9 (NOH.out (.inr (.inr (.inr hno))))
      clear hno
      go_wp2
      all_goals go_ret2
      all_goals exact IntRet.no HN.out
  · have hku : k = u.size := by omega
    have hall : u.data.toList.take k = u.data.toList := List.take_of_length_le (by simp; omega)
    rw [hall] at hd hv ⊢
    have HY := hZ9 (YESH.out hd)
    clear hall hd
    generalize PhS.valFrom 0 u.data.toList = v at *
    subst hku
    go_wp2
    go_ret2
    exact IntRet.yes (by rw [HY.out]; rfl)
theorem integer_pos_off (u : ByteArray) (h1 : 1 <= u.size) (hm : u.size <= 1000000) (c45 : ((u[0].toNat : Int) == 45) = false) (hz : 18 < u.size \/ (u.size <= 18 /\ 2 <= u.size /\ ((u[0].toNat : Int) == 48) = true)) (w : World) :
  Calls Tryz.prog 84 #[.string u] w (IntRet u.data.toList w) := by
 have k45 : ¬ (u[0].toNat : Int) = 45 := beq_eq_false_iff_ne.1 c45
 have hneg : (u.data.toList.head? == some 45) = false := by
  rw [int_head (by omega), decide_eq_false_iff_not]
  intro e; rw [e] at k45; exact k45 rfl
 have hl := Lib.size_eq u
 have HN := hZ9 (intR_none hneg (d := u.data.toList) rfl (by
  rcases hz with hz | ⟨_, hz, c48⟩
  · right; left; omega
  · right; right; left
    refine ⟨?_, .inl (by omega)⟩
    rw [head_is (by omega), u8_of (n := 48) (by decide) (beq_iff_eq.1 c48)]; rfl))
 clear k45 hneg hl
 rcases hz with hz | ⟨h18, hz, c48⟩
 all_goals
  go_enter Tryz.func84, Tryz.ntmps84
  go_wp2_with fail
  go_ret2
  exact IntRet.no HN.out
theorem integer_neg_off (s u : ByteArray) (h1 : 1 <= s.size) (hm : s.size <= 1000000) (hu : s.extract 1 s.size = u) (c45 : (s[0].toNat : Int) = 45) (hz : u.size < 1 \/ 18 < u.size \/ (u.size <= 18 /\ ∃ h : 1 <= u.size, ((u[0].toNat : Int) == 48) = true)) (w : World) :
  Calls Tryz.prog 84 #[.string s] w (IntRet s.data.toList w) := by
 have hneg : (s.data.toList.head? == some 45) = true := by
  rw [int_head (by omega), decide_eq_true_eq]; exact u8_of (n := 45) (by decide) c45
 have hd0 : (if true = true then s.data.toList.tail else s.data.toList) = u.data.toList := by rw [if_pos rfl, tail_is, hu]
 have hl := Lib.size_eq u
 have hsu : u.size = s.size - 1 := by rw [<- hu]; simp
 have HN := hZ9 (intR_none hneg hd0 (by
  rcases hz with hz | hz | ⟨_, hz, c48⟩
  · left; omega
  · right; left; omega
  · right; right; left
    refine ⟨?_, .inr rfl⟩
    rw [head_is (by omega), u8_of (n := 48) (by decide) (beq_iff_eq.1 c48)]; rfl))
 have hum : u.size <= 1000000 := by omega
 clear hneg hl hd0 hsu
 rcases hz with hz | hz | ⟨h18, hz, c48⟩
 · go_enter Tryz.func84, Tryz.ntmps84
   go_wp2_with fail
   go_ret2
   exact IntRet.no HN.out
 · go_enter Tryz.func84, Tryz.ntmps84
   go_wp2_with fail
   go_ret2
   exact IntRet.no HN.out
 · have e1 : decide ((u.size : Int) < 1) = false := decide_eq_false (by omega)
   have e2 : decide ((18 : Int) < (u.size : Int)) = false := decide_eq_false (by omega)
   go_enter Tryz.func84, Tryz.ntmps84
   go_wp2_with fail
   all_goals go_ret2
   all_goals exact IntRet.no HN.out
theorem refint_c (s : ByteArray) (hs : s.size <= 1000000) (w : World) : Calls Tryz.prog 84 #[.string s] w (IntRet s.data.toList w) := by
 by_cases h0 : s.size = 0
 · exact integer_empty s h0 w
 have h1 : 1 <= s.size := by omega
 by_cases c45 : (s[0].toNat : Int) = 45
 · by_cases hz : (s.extract 1 s.size).size < 1
   · exact integer_neg_off s _ h1 hs rfl c45 (.inl hz) w
   · by_cases hz2 : 18 < (s.extract 1 s.size).size
     · exact integer_neg_off s _ h1 hs rfl c45 (.inr (.inl hz2)) w
     · have hp : 1 <= (s.extract 1 s.size).size := by omega
       cases c48 : (((s.extract 1 s.size)[0].toNat : Int) == 48) with
       | true => exact integer_neg_off s _ h1 hs rfl c45 (.inr (.inr ⟨by omega, hp, c48⟩)) w
       | false => exact integer_neg s _ h1 rfl hp (by omega) c45 c48 w
 · have k45 : ((s[0].toNat : Int) == 45) = false := beq_eq_false_iff_ne.2 c45
   by_cases hz : 18 < s.size
   · exact integer_pos_off s h1 hs k45 (.inl hz) w
   · cases c48 : ((s[0].toNat : Int) == 48) with
     | false => exact integer_pos s h1 (by omega) k45 (.inl c48) w
     | true =>
      by_cases h2 : 2 <= s.size
      · exact integer_pos_off s h1 hs k45 (.inr ⟨by omega, h2, c48⟩) w
      · exact integer_pos s h1 (by omega) k45 (.inr ⟨c48, by omega⟩) w
end
section
open Go.RowKit
theorem normV_one (l : List UInt8) : RuS.normV 1 l = if (textR l).isEmpty = true then none else some (textR l) := by
 show (if (RuS.textS l).isEmpty || RuS.hasNul l then none else some (RuS.textS l)) = _
 unfold textR
 cases h : RuS.hasNul l with
 | true => simp
 | false => simp
theorem normV_three (l : List UInt8) : RuS.normV 3 l = if (RuS.intR l).isSome = true then some l else none := by
 rw [RuS.intR_eq]; rfl
theorem normV_four (l : List UInt8) : RuS.normV 4 l = if (PhS.parseP l).isSome = true then some l else none := rfl
theorem refnormal_c (nm s : ByteArray) (hn : nm.size <= 9223372036854775807) (hs : s.size <= 9223372036854775807) (w : World) (hE : Env w) :
  Calls Tryz.prog 58 #[.string nm, .string s] w (NormRet nm.data.toList s.data.toList w) := by
 have hty := fun w => reftype_c nm hn w
 unfold TypeRet at hty
 have hall := RuS.typeM_all (RuS.lower nm.data.toList)
 have HN : Hid (RuS.normal nm.data.toList s.data.toList = RuS.normalR (RuS.typeOf nm.data.toList).2 s.data.toList) := hZ9 rfl
 have hall' : RuS.typeOf nm.data.toList = ([], 0) \/ (1 <= (RuS.typeOf nm.data.toList).2 /\ (RuS.typeOf nm.data.toList).2 <= 5 /\ 1 <= (RuS.typeOf nm.data.toList).1.length /\ (RuS.typeOf nm.data.toList).1.length <= 17) := hall
 clear hall
 generalize RuS.typeOf nm.data.toList = r at *
 obtain ⟨t, sy⟩ := r
 simp only at hty HN hall'
 have hsl := Lib.size_eq s
 by_cases h0 : sy = 0
 · subst h0
   go_enter Tryz.func58, Tryz.ntmps58
   go_wp2_with fail
   refine (hty _).mono ?_; rintro e w1 ⟨rfl, hb1⟩
   go_wp2_with fail
   go_ret2
   exact NormRet.mk' (r := ([], 5)) (by rw [HN.out]; rfl) hb1
 by_cases h5 : sy = 5
 · subst h5
   go_enter Tryz.func58, Tryz.ntmps58
   go_wp2_with fail
   refine (hty _).mono ?_; rintro e w1 ⟨rfl, hb1⟩
   go_wp2_with fail
   go_ret2
   exact NormRet.mk' (r := ([], 1)) (by rw [HN.out]; rfl) hb1
 have hb15 : sy = 1 \/ sy = 2 \/ sy = 3 \/ sy = 4 := by
  rcases hall' with h | h
  · injection h with _ h; exact absurd h h0
  · omega
 have g0 : (sy == 0) = false := by simpa using h0
 have g5 : (sy == 5) = false := by simpa using h5
 have H0 := hZ9 h0
 have H5 := hZ9 h5
 have HB := hZ9 hb15
 clear h0 h5 hall' hb15
 by_cases he : s.data.toList.length < 1 \/ 200 < s.data.toList.length
 · have HE := hZ9 he
   rw [<- hsl] at he
   clear hsl
   rcases he with he | he
   all_goals
    go_enter Tryz.func58, Tryz.ntmps58
    go_wp2_with fail
    refine (hty _).mono ?_; rintro e w1 ⟨rfl, hb1⟩
    go_wp2_with fail
    go_ret2
    exact NormRet.mk' (r := ([], 2)) (by rw [HN.out]; unfold RuS.normalR; rw [if_neg H0.out, if_neg H5.out, if_pos HE.out]) hb1
 have HG := hZ9 he
 have hg1 : 1 <= s.size := by omega
 have hg2 : s.size <= 200 := by omega
 clear he hsl
 have hgd : decide ((200 : Int) < (s.size : Int)) = false := decide_eq_false (by omega)
 have hgd1 : decide ((s.size : Int) < 1) = false := decide_eq_false (by omega)
 have HF : ∀ r, (match RuS.normV sy s.data.toList with | none => ([], 2) | some s => (s, 0)) = r -> RuS.normal nm.data.toList s.data.toList = r := by
  intro r hr
  rw [HN.out]; unfold RuS.normalR; rw [if_neg H0.out, if_neg H5.out, if_neg HG.out]; exact hr
 have HF := hZ9 HF
 rcases HB.out with rfl | rfl | rfl | rfl
 · have ht := fun w => reftext_c s (by omega) w
   unfold TextRet at ht
   have HV := hZ9 (normV_one s.data.toList)
   generalize textR s.data.toList = tx at *
   cases hx : tx.isEmpty with
   | true =>
    have HX := hZ9 hx
    go_enter Tryz.func58, Tryz.ntmps58
    go_wp2_with fail
    refine (hty _).mono ?_; rintro e w1 ⟨rfl, hb1⟩
    go_wp2_with fail
    refine (ht _).mono ?_; rintro e w2 ⟨rfl, hb2⟩
    go_wp2_with fail
    go_ret2
    exact NormRet.mk' (r := ([], 2)) (HF.out _ (by rw [HV.out, if_pos HX.out])) (below_trans hb1 hb2)
   | false =>
    have HX : Hid (¬ tx.isEmpty = true) := hZ9 (by rw [hx]; decide)
    go_enter Tryz.func58, Tryz.ntmps58
    go_wp2_with fail
    refine (hty _).mono ?_; rintro e w1 ⟨rfl, hb1⟩
    go_wp2_with fail
    refine (ht _).mono ?_; rintro e w2 ⟨rfl, hb2⟩
    go_wp2_with fail
    go_ret2
    exact NormRet.mk' (r := (_, 0)) (HF.out _ (by rw [HV.out, if_neg HX.out])) (below_trans hb1 hb2)
 · go_enter Tryz.func58, Tryz.ntmps58
   go_wp2_with fail
   refine (hty _).mono ?_; rintro e w1 ⟨rfl, hb1⟩
   go_wp2_with fail
   go_ret2
   have := NormRet.mk' (r := (s.data.toList, 0)) (HF.out _ rfl) hb1
   rw [mk_str] at this
   exact this
 · have hi := fun w => refint_c s (by omega) w
   unfold IntRet at hi
   have HV := hZ9 (normV_three s.data.toList)
   generalize RuS.intR s.data.toList = iv at *
   cases iv with
   | none =>
    simp only [Option.isSome_none] at hi
    go_enter Tryz.func58, Tryz.ntmps58
    go_wp2_with fail
    refine (hty _).mono ?_; rintro e w1 ⟨rfl, hb1⟩
    go_wp2_with fail
    refine (hi _).mono ?_; rintro e w2 ⟨rfl, rfl⟩
    go_wp2_with fail
    go_ret2
    exact NormRet.mk' (r := ([], 2)) (HF.out _ (by rw [HV.out]; rfl)) hb1
   | some n =>
    simp only [Option.isSome_some, Option.getD_some] at hi
    go_enter Tryz.func58, Tryz.ntmps58
    go_wp2_with fail
    refine (hty _).mono ?_; rintro e w1 ⟨rfl, hb1⟩
    go_wp2_with fail
    refine (hi _).mono ?_; rintro e w2 ⟨rfl, rfl⟩
    go_wp2_with fail
    go_ret2
    have := NormRet.mk' (r := (s.data.toList, 0)) (HF.out _ (by rw [HV.out]; rfl)) hb1
    rw [mk_str] at this
    exact this
 · have hp := fun w hE => refparse_c s (by omega) w hE
   unfold ParseRet at hp
   have HV := hZ9 (normV_four s.data.toList)
   generalize PhS.parseP s.data.toList = pv at *
   cases pv with
   | none =>
    simp only at hp
    go_enter Tryz.func58, Tryz.ntmps58
    go_wp2_with fail
    refine (hty _).mono ?_; rintro e w1 ⟨rfl, hb1⟩
    go_wp2_with fail
    refine (hp _ (hE.below hb1)).mono ?_; rintro e w2 ⟨rfl, hb2⟩
    go_wp2_with fail
    go_ret2
    exact NormRet.mk' (r := ([], 2)) (HF.out _ (by rw [HV.out]; rfl)) (below_alloc (below_trans hb1 hb2) _)
   | some p =>
    obtain ⟨pa, pb⟩ := p
    simp only at hp
    go_enter Tryz.func58, Tryz.ntmps58
    go_wp2_with fail
    refine (hty _).mono ?_; rintro e w1 ⟨rfl, hb1⟩
    go_wp2_with fail
    refine (hp _ (hE.below hb1)).mono ?_; rintro e w2 ⟨rfl, hb2⟩
    go_wp2_with fail
    go_ret2
    have := NormRet.mk' (r := (s.data.toList, 0)) (HF.out _ (by rw [HV.out]; rfl)) (below_alloc (below_trans hb1 hb2) (.cells #[.int .i64 pa, .int .i64 pb] 114))
    rw [mk_str] at this
    exact this
end
end Go.Proofs.YtjmfknfponjgkaaGreatDoor
