/- The walks of the reference's numbers: their texts, what they are read of, how they are held against the program's. Conditions: as stated. -/
import Derived.Deep.RegionHeld3
import Derived.Deep.DeepCutAuto
import Derived.Test.YtjmfknfponjgkaaGreatDoorJPha
set_option maxRecDepth 100000
set_option maxHeartbeats 1000000
namespace Go.Proofs.YtjmfknfponjgkaaGreatDoor
section
open Go.RowKit
def Pair (a b : Int) : Value := .agg #[.int .i64 a, .int .i64 b]
theorem second_c (b : Int) (hb : b.natAbs <= 1000000) (w : World) (hE : Env w) :
  Calls Tryz.prog 146 #[.int .i64 b] w fun e w' => e = .returned (.string ⟨(PhS.sec b).toArray⟩) /\ Below w.heap.size w w' := by
 have hl := PhS.itoa_len (n := b) (by omega)
 by_cases h1 : b = 1
 · subst h1
   go_enter Tryz.func146, Tryz.ntmps146
   go_wp2_with fail
   go_ret
   exact ⟨rfl, Below.refl _ _⟩
 · by_cases h2 : b = -1
   · subst h2
     go_enter Tryz.func146, Tryz.ntmps146
     go_wp2_with fail
     go_ret
     exact ⟨rfl, Below.refl _ _⟩
   · have hfin : PhS.sec b = Lib.itoa b ++ [105] := by unfold PhS.sec; rw [if_neg h1, if_neg h2]
     have HF := hZ9 hfin
     have t1 : (b == 1) = false := by simpa using h1
     have t2 : (b == -1) = false := by simpa using h2
     clear hfin h1 h2
     go_enter Tryz.func146, Tryz.ntmps146
     go_wp2_with fail
     refine (fmtInt b (by omega) (by omega) _ hE).mono ?_; rintro e w1 ⟨rfl, hb1⟩
     go_wp2_with fail
     go_ret
     exact ⟨by rw [HF.out, <- mk_append]; rfl, hb1⟩
theorem keep2 {w W w' : World} {v0 v1 : Value} (h0 : W.cell? ⟨w.heap.size, 0, none⟩ = some v0) (h1 : W.cell? ⟨w.heap.size, 1, none⟩ = some v1) (hE : Env W) (hb : Below w.heap.size w W) (h : Below W.heap.size W w') :
  w'.cell? ⟨w.heap.size, 0, none⟩ = some v0 /\ w'.cell? ⟨w.heap.size, 1, none⟩ = some v1 /\ Env w' /\ Below w.heap.size w w' :=
 ⟨below_cell h (Nat.le_refl _) h0, below_cell h (Nat.le_refl _) h1, hE.below h, hb.trans (h.mono hb.size)⟩
theorem begin2 {w : World} {v0 v1 : Value} {t : TypeId} (hE : Env w) :
  (w.alloc (Obj.cells #[v0, v1] t)).drew.cell? ⟨w.heap.size, 0, none⟩ = some v0 /\ (w.alloc (Obj.cells #[v0, v1] t)).drew.cell? ⟨w.heap.size, 1, none⟩ = some v1 /\ Env (w.alloc (Obj.cells #[v0, v1] t)).drew /\ Below w.heap.size w (w.alloc (Obj.cells #[v0, v1] t)).drew :=
 ⟨by simp [go_sem], by simp [go_sem], (hE.alloc _).drew, ((Below.refl _ _).alloc (Nat.le_refl _) _).drew⟩
theorem text_pos (a b : Int) (ha : a.natAbs <= 1000000) (hb : b.natAbs <= 1000000) (ha0 : a ≠ 0) (h0 : 0 < b) (w : World) (hE : Env w) :
  Calls Tryz.prog 112 #[.agg #[.int .i64 a, .int .i64 b]] w fun e w' => e = .returned (.string ⟨(PhS.text a b).toArray⟩) /\ Below w.heap.size w w' := by
 have hl := PhS.itoa_len (n := a) (by omega)
 have hl2 := PhS.sec_len (b := b) hb
 have t1 : (b == 0) = false := by simp; omega
 have t2 : (a == 0) = false := by simpa using ha0
 have hfin : PhS.text a b = (Lib.itoa a ++ [43]) ++ PhS.sec b := by unfold PhS.text; rw [if_neg (by omega), if_neg ha0, if_pos h0]; simp
 have HF := hZ9 hfin
 have z1 : ¬ 9223372036854775807 < (Lib.itoa a).length + 1 := by omega
 have z2 : ¬ 9223372036854775807 < (Lib.itoa a).length + 1 + (PhS.sec b).length := by omega
 clear hfin ha0
 go_enter Tryz.func112, Tryz.ntmps112
 go_wp2_with fail
 go_region_held3 (fun w' => w'.cell? ⟨w.heap.size, 0, none⟩ = some (.int .i64 a) /\ w'.cell? ⟨w.heap.size, 1, none⟩ = some (.int .i64 b) /\ Env w' /\ Below w.heap.size w w')
  (first | exact begin2 hE | (go_split_ands; exact keep2 (by assumption) (by assumption) (by assumption) (by assumption) hbN) | go_keep)
  (first
    | (go_at_call 127; go_split_ands; refine (fmtInt a (by omega) (by omega) _ ?_).mono ?_; assumption; rintro e w1 ⟨rfl, hbN⟩)
    | (go_at_call 146; go_split_ands; refine (second_c b hb _ ?_).mono ?_; assumption; rintro e w2 ⟨rfl, hbN⟩))
 all_goals go_wp2_with fail
 all_goals go_split_ands
 all_goals go_ret
 all_goals exact ⟨by rw [HF.out, <- mk_append, <- mk_append]; rfl, by (first | assumption | exact below_trans (by assumption) (by assumption))⟩
theorem text_neg (a b : Int) (ha : a.natAbs <= 1000000) (hb : b.natAbs <= 1000000) (ha0 : a ≠ 0) (h0 : b < 0) (w : World) (hE : Env w) :
  Calls Tryz.prog 112 #[.agg #[.int .i64 a, .int .i64 b]] w fun e w' => e = .returned (.string ⟨(PhS.text a b).toArray⟩) /\ Below w.heap.size w w' := by
 have hl := PhS.itoa_len (n := a) (by omega)
 have hl2 := PhS.sec_len (b := b) hb
 have t1 : (b == 0) = false := by simp; omega
 have t2 : (a == 0) = false := by simpa using ha0
 have hfin : PhS.text a b = Lib.itoa a ++ PhS.sec b := by unfold PhS.text; rw [if_neg (by omega), if_neg ha0, if_neg (by omega)]
 have HF := hZ9 hfin
 have z2 : ¬ 9223372036854775807 < (Lib.itoa a).length + (PhS.sec b).length := by omega
 clear hfin ha0
 go_enter Tryz.func112, Tryz.ntmps112
 go_wp2_with fail
 go_region_held3 (fun w' => w'.cell? ⟨w.heap.size, 0, none⟩ = some (.int .i64 a) /\ w'.cell? ⟨w.heap.size, 1, none⟩ = some (.int .i64 b) /\ Env w' /\ Below w.heap.size w w')
  (first | exact begin2 hE | (go_split_ands; exact keep2 (by assumption) (by assumption) (by assumption) (by assumption) hbN) | go_keep)
  (first
    | (go_at_call 127; go_split_ands; refine (fmtInt a (by omega) (by omega) _ ?_).mono ?_; assumption; rintro e w1 ⟨rfl, hbN⟩)
    | (go_at_call 146; go_split_ands; refine (second_c b hb _ ?_).mono ?_; assumption; rintro e w2 ⟨rfl, hbN⟩))
 all_goals go_wp2_with fail
 all_goals go_split_ands
 all_goals go_ret
 all_goals exact ⟨by rw [HF.out, <- mk_append]; rfl, by (first | assumption | exact below_trans (by assumption) (by assumption))⟩
theorem text_real (a : Int) (ha : a.natAbs <= 1000000) (w : World) (hE : Env w) :
  Calls Tryz.prog 112 #[.agg #[.int .i64 a, .int .i64 0]] w fun e w' => e = .returned (.string ⟨(PhS.text a 0).toArray⟩) /\ Below w.heap.size w w' := by
 go_enter Tryz.func112, Tryz.ntmps112
 go_wp2_with fail
 refine (fmtInt a (by omega) (by omega) _ (hE.alloc _)).mono ?_; rintro e w1 ⟨rfl, hb1⟩
 go_wp2_with fail
 go_ret
 exact ⟨rfl, below_trans ((Below.refl _ _).alloc (Nat.le_refl _) _) hb1⟩
theorem text_nought (b : Int) (hb : b.natAbs <= 1000000) (h0 : b ≠ 0) (w : World) (hE : Env w) :
  Calls Tryz.prog 112 #[.agg #[.int .i64 0, .int .i64 b]] w fun e w' => e = .returned (.string ⟨(PhS.text 0 b).toArray⟩) /\ Below w.heap.size w w' := by
 have t1 : (b == 0) = false := by simpa using h0
 have hfin : PhS.text 0 b = PhS.sec b := by unfold PhS.text; rw [if_neg h0, if_pos rfl]
 have HF := hZ9 hfin
 clear hfin h0
 go_enter Tryz.func112, Tryz.ntmps112
 go_wp2_with fail
 refine (second_c b hb _ (hE.alloc _)).mono ?_; rintro e w1 ⟨rfl, hb1⟩
 go_wp2_with fail
 go_ret
 exact ⟨by rw [HF.out]; rfl, below_trans ((Below.refl _ _).alloc (Nat.le_refl _) _) hb1⟩
theorem text_c (a b : Int) (h : PhS.inR a b = true) (w : World) (hE : Env w) :
  Calls Tryz.prog 112 #[.agg #[.int .i64 a, .int .i64 b]] w fun e w' => e = .returned (.string ⟨(PhS.text a b).toArray⟩) /\ Below w.heap.size w w' := by
 have hr : a.natAbs <= 1000000 /\ b.natAbs <= 1000000 := of_decide_eq_true h
 obtain ⟨ha, hb⟩ := hr
 by_cases b0 : b = 0
 · subst b0; exact text_real a ha w hE
 by_cases a0 : a = 0
 · subst a0; exact text_nought b hb b0 w hE
 by_cases hp : 0 < b
 · exact text_pos a b ha hb a0 hp w hE
 · exact text_neg a b ha hb a0 (by omega) w hE
theorem within_c (a b : Int) (ha : a.natAbs <= 9223372036854775807) (hb : b.natAbs <= 9223372036854775807) (w : World) :
  Calls Tryz.prog 111 #[.agg #[.int .i64 a, .int .i64 b]] w fun e w' => e = .returned (.bool (PhS.inR a b)) /\ Below w.heap.size w w' := by
 go_enter Tryz.func111, Tryz.ntmps111
 go_wp2_with fail
 all_goals go_ret
 all_goals refine ⟨retB ?_, (Below.refl _ _).alloc (Nat.le_refl _) _⟩
 all_goals unfold PhS.inR
 all_goals first | (rw [decide_eq_decide]; omega) | (symm; rw [decide_eq_false_iff_not]; omega)
end
section
open Go.RowKit
def NumLoop (u : ByteArray) (n i : Value) : Prop := ∃ k : Nat, k <= u.size /\ i = .int .i64 k /\ n = .int .i64 (PhS.valFrom 0 (u.data.toList.take k)) /\ (u.data.toList.take k).all PhS.isDig = true
def NumRet (l : List UInt8) (w : World) (e : Ending) (w' : World) : Prop := e = .returned (.tuple #[.int .i64 (PhS.numV l), .bool (PhS.numOk l)]) /\ w = w'
theorem NumRet.yes {l : List UInt8} {w : World} {v : Int} (h : PhS.numS l = some v) : NumRet l w (.returned (.tuple #[.int .i64 v, .bool true])) w := by
 refine ⟨?_, rfl⟩; unfold PhS.numV PhS.numOk; rw [h]; rfl
theorem NumRet.no {l : List UInt8} {w : World} (h : PhS.numS l = none) : NumRet l w (.returned (.tuple #[.int .i64 0, .bool false])) w := by
 refine ⟨?_, rfl⟩; unfold PhS.numV PhS.numOk; rw [h]; rfl
theorem first_of {s : ByteArray} (h : 0 < s.size) : ∃ r, s.data.toList = s[0] :: r := by
 obtain ⟨⟨l⟩⟩ := s
 cases l with
 | nil => exact absurd h (by decide)
 | cons c r => exact ⟨r, rfl⟩
theorem u8_of {c : UInt8} {n : Nat} (hn : n < 256) (h : (c.toNat : Int) = n) : c = UInt8.ofNat n := by
 apply UInt8.toNat_inj.1
 rw [UInt8.toNat_ofNat']; omega
theorem bare_sign {s : ByteArray} (h : 0 < s.size) (hs : (s[0].toNat : Int) = 45 \/ (s[0].toNat : Int) = 43) : PhS.bare s.data.toList = (s.extract 1 s.size).data.toList := by
 obtain ⟨r, hr⟩ := first_of h
 rw [Lib.extract_to_end, hr]
 have : PhS.isSign s[0] = true := by
  rcases hs with h | h
  · rw [u8_of (n := 45) (by decide) h]; rfl
  · rw [u8_of (n := 43) (by decide) h]; rfl
 unfold PhS.bare
 simp only
 rw [this]; rfl
theorem bare_none {s : ByteArray} (h : 0 < s.size) (h1 : ¬ (s[0].toNat : Int) = 45) (h2 : ¬ (s[0].toNat : Int) = 43) : PhS.bare s.data.toList = s.data.toList := by
 obtain ⟨r, hr⟩ := first_of h
 rw [hr]
 have : PhS.isSign s[0] = false := by
  unfold PhS.isSign
  rw [Bool.or_eq_false_iff, beq_eq_false_iff_ne, beq_eq_false_iff_ne]
  exact ⟨fun e => h2 (by rw [e]; rfl), fun e => h1 (by rw [e]; rfl)⟩
 unfold PhS.bare
 simp only
 rw [this]; rfl
theorem head_is {s : ByteArray} (h : 0 < s.size) : s.data.toList.head? = some s[0] := by
 obtain ⟨r, hr⟩ := first_of h
 rw [hr]; rfl
theorem dig_fact {c : UInt8} (h : 48 <= (c.toNat : Int) /\ (c.toNat : Int) <= 57) : PhS.isDig c = true := decide_eq_true (by omega)
theorem dig_not {c : UInt8} (h : ¬ (48 <= (c.toNat : Int) /\ (c.toNat : Int) <= 57)) : PhS.isDig c = false := decide_eq_false (by omega)
theorem all_not (u : ByteArray) (k : Nat) (hk : k < u.size) (h : PhS.isDig u[k] = false) : u.data.toList.all PhS.isDig = false := by
 rw [List.all_eq_false]
 exact ⟨u[k], List.getElem_mem (by simpa using hk), by rw [h]; simp⟩
theorem int_cast {k : IntKind} {a b : Int} (h : a = b) : Value.int k a = Value.int k b := by rw [h]
theorem number_empty (s : ByteArray) (h0 : s.size = 0) (w : World) : Calls Tryz.prog 110 #[.string s] w (NumRet s.data.toList w) := by
 have hs : s = ByteArray.empty := by
  obtain ⟨⟨l⟩⟩ := s
  cases l with
  | nil => rfl
  | cons c r => have h1 : (c :: r).length = 0 := h0; cases h1
 subst hs
 go_enter Tryz.func110, Tryz.ntmps110
 go_wp2_with fail
 go_ret2
 exact NumRet.no rfl
set_option linter.unusedVariables false in
theorem number_neg (s : ByteArray) (h1 : 2 <= s.size) (hm : s.size <= 10) (c45 : (s[0].toNat : Int) = 45) (w : World) :
  Calls Tryz.prog 110 #[.string s] w (NumRet s.data.toList w) := by
 have HB := hZ9 (bare_sign (s := s) (by omega) (.inl c45))
 have HH : s.data.toList.head? = some 45 := by rw [head_is (by omega), u8_of (n := 45) (by decide) c45]; rfl
 have HH := hZ9 HH
 go_enter Tryz.func110, Tryz.ntmps110
 go_wp2_with fail
 have hu1 : (s.extract 1 s.size).size <= 9 := by simp; omega
 have hu2 : 1 <= (s.extract 1 s.size).size := by simp; omega
 generalize s.extract 1 s.size = u at *
 clear c45
 go_loop [4, 6] (fun n i => NumLoop u n i) (fun _ i => u.size - (intOf i).toNat)
 case atStart => exact ⟨0, Nat.zero_le _, rfl, rfl, rfl⟩
 case round =>
  obtain ⟨k, hk, rfl, rfl, hd⟩ := hrel
  have hv : PhS.valFrom 0 (u.data.toList.take k) < 1000000000 := by
   have := PhS.valFrom_lt _ hd
   have h2 : (u.data.toList.take k).length <= 9 := by simp; omega
   have h3 : 10 ^ (u.data.toList.take k).length <= 10 ^ 9 := Nat.pow_le_pow_right (by decide) h2
   omega
  by_cases hlt : k < u.size
  · have HT := hZ9 (PhS.take_snoc u k hlt)
    have HD := hZ9 hd
    clear hd
    generalize hvv : PhS.valFrom 0 (u.data.toList.take k) = v at *
    have HV := hZ9 hvv
    clear hvv
    by_cases hdig : 48 <= (u[k].toNat : Int) /\ (u[k].toNat : Int) <= 57
    · have HG := hZ9 (dig_fact hdig)
      have HQ := hZ9 hdig
      obtain ⟨d1, d2⟩ := hdig
      go_wp2
      go_round
      case rel =>
       refine ⟨k + 1, by omega, by go_num, int_cast ?_, ?_⟩
       · rw [HT.out, PhS.valFrom_snoc, HV.out]
         have := HQ.out
         omega
       · rw [HT.out, List.all_append, HD.out]; simp [HG.out]
      case measure => simp [intOf]; omega
    · have hno := all_not u k hlt (dig_not hdig)
      have HN := hZ9 (PhS.numS_no HB.out (.inr (.inr hno)))
      clear hno
      go_wp2
      all_goals go_ret2
      all_goals exact NumRet.no HN.out
  · have hku : k = u.size := by omega
    have hall : u.data.toList.take k = u.data.toList := List.take_of_length_le (by simp; omega)
    rw [hall] at hd hv ⊢
    have hlen : u.data.toList.length = u.size := (Lib.size_eq u).symm
    have HY := hZ9 (PhS.numS_yes HB.out (by omega) (by omega) hd)
    clear hall hd hlen
    generalize PhS.valFrom 0 u.data.toList = v at *
    subst hku
    go_wp2
    go_ret2
    exact NumRet.yes (by rw [HY.out]; rw [if_pos HH.out])
set_option linter.unusedVariables false in
theorem number_plus (s : ByteArray) (h1 : 2 <= s.size) (hm : s.size <= 10) (c43 : (s[0].toNat : Int) = 43) (w : World) :
  Calls Tryz.prog 110 #[.string s] w (NumRet s.data.toList w) := by
 have HB := hZ9 (bare_sign (s := s) (by omega) (.inr c43))
 have HH : ¬ s.data.toList.head? = some 45 := by rw [head_is (by omega), u8_of (n := 43) (by decide) c43]; decide
 have HH := hZ9 HH
 go_enter Tryz.func110, Tryz.ntmps110
 go_wp2_with fail
 have hu1 : (s.extract 1 s.size).size <= 9 := by simp; omega
 have hu2 : 1 <= (s.extract 1 s.size).size := by simp; omega
 generalize s.extract 1 s.size = u at *
 clear c43
 go_loop [4, 6] (fun n i => NumLoop u n i) (fun _ i => u.size - (intOf i).toNat)
 case atStart => exact ⟨0, Nat.zero_le _, rfl, rfl, rfl⟩
 case round =>
  obtain ⟨k, hk, rfl, rfl, hd⟩ := hrel
  have hv : PhS.valFrom 0 (u.data.toList.take k) < 1000000000 := by
   have := PhS.valFrom_lt _ hd
   have h2 : (u.data.toList.take k).length <= 9 := by simp; omega
   have h3 : 10 ^ (u.data.toList.take k).length <= 10 ^ 9 := Nat.pow_le_pow_right (by decide) h2
   omega
  by_cases hlt : k < u.size
  · have HT := hZ9 (PhS.take_snoc u k hlt)
    have HD := hZ9 hd
    clear hd
    generalize hvv : PhS.valFrom 0 (u.data.toList.take k) = v at *
    have HV := hZ9 hvv
    clear hvv
    by_cases hdig : 48 <= (u[k].toNat : Int) /\ (u[k].toNat : Int) <= 57
    · have HG := hZ9 (dig_fact hdig)
      have HQ := hZ9 hdig
      obtain ⟨d1, d2⟩ := hdig
      go_wp2
      go_round
      case rel =>
       refine ⟨k + 1, by omega, by go_num, int_cast ?_, ?_⟩
       · rw [HT.out, PhS.valFrom_snoc, HV.out]
         have := HQ.out
         omega
       · rw [HT.out, List.all_append, HD.out]; simp [HG.out]
      case measure => simp [intOf]; omega
    · have hno := all_not u k hlt (dig_not hdig)
      have HN := hZ9 (PhS.numS_no HB.out (.inr (.inr hno)))
      clear hno
      go_wp2
      all_goals go_ret2
      all_goals exact NumRet.no HN.out
  · have hku : k = u.size := by omega
    have hall : u.data.toList.take k = u.data.toList := List.take_of_length_le (by simp; omega)
    rw [hall] at hd hv ⊢
    have hlen : u.data.toList.length = u.size := (Lib.size_eq u).symm
    have HY := hZ9 (PhS.numS_yes HB.out (by omega) (by omega) hd)
    clear hall hd hlen
    generalize PhS.valFrom 0 u.data.toList = v at *
    subst hku
    go_wp2
    go_ret2
    exact NumRet.yes (by rw [HY.out]; rw [if_neg HH.out])
set_option linter.unusedVariables false in
theorem number_bare (u : ByteArray) (hu2 : 1 <= u.size) (hu1 : u.size <= 9) (c45 : ((u[0].toNat : Int) == 45) = false) (c43 : ((u[0].toNat : Int) == 43) = false) (w : World) :
  Calls Tryz.prog 110 #[.string u] w (NumRet u.data.toList w) := by
 have k45 : ¬ (u[0].toNat : Int) = 45 := beq_eq_false_iff_ne.1 c45
 have k43 : ¬ (u[0].toNat : Int) = 43 := beq_eq_false_iff_ne.1 c43
 have HB := hZ9 (bare_none (s := u) (by omega) k45 k43)
 have HH : ¬ u.data.toList.head? = some 45 := by
  rw [head_is (by omega)]
  intro e
  have e2 := Option.some.inj e
  rw [e2] at k45
  exact k45 rfl
 have HH := hZ9 HH
 clear k45 k43
 go_enter Tryz.func110, Tryz.ntmps110
 go_wp2_with fail
 clear c45 c43
 go_loop [4, 6] (fun n i => NumLoop u n i) (fun _ i => u.size - (intOf i).toNat)
 case atStart => exact ⟨0, Nat.zero_le _, rfl, rfl, rfl⟩
 case round =>
  obtain ⟨k, hk, rfl, rfl, hd⟩ := hrel
  have hv : PhS.valFrom 0 (u.data.toList.take k) < 1000000000 := by
   have := PhS.valFrom_lt _ hd
   have h2 : (u.data.toList.take k).length <= 9 := by simp; omega
   have h3 : 10 ^ (u.data.toList.take k).length <= 10 ^ 9 := Nat.pow_le_pow_right (by decide) h2
   omega
  by_cases hlt : k < u.size
  · have HT := hZ9 (PhS.take_snoc u k hlt)
    have HD := hZ9 hd
    clear hd
    generalize hvv : PhS.valFrom 0 (u.data.toList.take k) = v at *
    have HV := hZ9 hvv
    clear hvv
    by_cases hdig : 48 <= (u[k].toNat : Int) /\ (u[k].toNat : Int) <= 57
    · have HG := hZ9 (dig_fact hdig)
      have HQ := hZ9 hdig
      obtain ⟨d1, d2⟩ := hdig
      go_wp2
      go_round
      case rel =>
       refine ⟨k + 1, by omega, by go_num, int_cast ?_, ?_⟩
       · rw [HT.out, PhS.valFrom_snoc, HV.out]
         have := HQ.out
         omega
       · rw [HT.out, List.all_append, HD.out]; simp [HG.out]
      case measure => simp [intOf]; omega
    · have hno := all_not u k hlt (dig_not hdig)
      have HN := hZ9 (PhS.numS_no HB.out (.inr (.inr hno)))
      clear hno
      go_wp2
      all_goals go_ret2
      all_goals exact NumRet.no HN.out
  · have hku : k = u.size := by omega
    have hall : u.data.toList.take k = u.data.toList := List.take_of_length_le (by simp; omega)
    rw [hall] at hd hv ⊢
    have hlen : u.data.toList.length = u.size := (Lib.size_eq u).symm
    have HY := hZ9 (PhS.numS_yes HB.out (by omega) (by omega) hd)
    clear hall hd hlen
    generalize PhS.valFrom 0 u.data.toList = v at *
    subst hku
    go_wp2
    go_ret2
    exact NumRet.yes (by rw [HY.out]; rw [if_neg HH.out])
theorem number_neg_off (s : ByteArray) (h1 : 0 < s.size) (hm : s.size <= 9223372036854775807) (hz : s.size < 2 \/ 10 < s.size) (c45 : (s[0].toNat : Int) = 45) (w : World) :
  Calls Tryz.prog 110 #[.string s] w (NumRet s.data.toList w) := by
 have HN := hZ9 (PhS.numS_no (bare_sign (s := s) h1 (.inl c45)) (by rw [<- Lib.size_eq]; simp only [ByteArray.size_extract]; omega))
 rcases hz with hz | hz
 all_goals
  go_enter Tryz.func110, Tryz.ntmps110
  go_wp2_with fail
  go_ret2
  exact NumRet.no HN.out
theorem number_plus_off (s : ByteArray) (h1 : 0 < s.size) (hm : s.size <= 9223372036854775807) (hz : s.size < 2 \/ 10 < s.size) (c43 : (s[0].toNat : Int) = 43) (w : World) :
  Calls Tryz.prog 110 #[.string s] w (NumRet s.data.toList w) := by
 have HN := hZ9 (PhS.numS_no (bare_sign (s := s) h1 (.inr c43)) (by rw [<- Lib.size_eq]; simp only [ByteArray.size_extract]; omega))
 rcases hz with hz | hz
 all_goals
  go_enter Tryz.func110, Tryz.ntmps110
  go_wp2_with fail
  go_ret2
  exact NumRet.no HN.out
theorem number_bare_off (s : ByteArray) (h1 : 9 < s.size) (hm : s.size <= 9223372036854775807) (c45 : ((s[0].toNat : Int) == 45) = false) (c43 : ((s[0].toNat : Int) == 43) = false) (w : World) :
  Calls Tryz.prog 110 #[.string s] w (NumRet s.data.toList w) := by
 have HN := hZ9 (PhS.numS_no (bare_none (s := s) (by omega) (beq_eq_false_iff_ne.1 c45) (beq_eq_false_iff_ne.1 c43)) (by rw [<- Lib.size_eq]; omega))
 go_enter Tryz.func110, Tryz.ntmps110
 go_wp2_with fail
 go_ret2
 exact NumRet.no HN.out
theorem number_c (s : ByteArray) (hm : s.size <= 9223372036854775807) (w : World) : Calls Tryz.prog 110 #[.string s] w (NumRet s.data.toList w) := by
 by_cases h0 : s.size = 0
 · exact number_empty s h0 w
 have h1 : 0 < s.size := by omega
 by_cases c45 : (s[0].toNat : Int) = 45
 · by_cases hz : s.size < 2 \/ 10 < s.size
   · exact number_neg_off s h1 hm hz c45 w
   · exact number_neg s (by omega) (by omega) c45 w
 by_cases c43 : (s[0].toNat : Int) = 43
 · by_cases hz : s.size < 2 \/ 10 < s.size
   · exact number_plus_off s h1 hm hz c43 w
   · exact number_plus s (by omega) (by omega) c43 w
 by_cases hz : 9 < s.size
 · exact number_bare_off s hz hm (beq_eq_false_iff_ne.2 c45) (beq_eq_false_iff_ne.2 c43) w
 · exact number_bare s (by omega) (by omega) (beq_eq_false_iff_ne.2 c45) (beq_eq_false_iff_ne.2 c43) w
end
section
open Go.RowKit
def ParseRet (l : List UInt8) (w : World) (e : Ending) (w' : World) : Prop :=
 (match PhS.parseP l with
 | some (a, b) => e = .returned (.tuple #[.agg #[.int .i64 a, .int .i64 b], .int .i64 0])
 | none => e = .returned (.tuple #[.agg #[.int .i64 0, .int .i64 0], .int .i64 2])) /\ Below w.heap.size w w'
theorem ParseRet.no {l : List UInt8} {w w' : World} (h : PhS.parseP l = none) (hb : Below w.heap.size w w') : ParseRet l w (.returned (.tuple #[.agg #[.int .i64 0, .int .i64 0], .int .i64 2])) w' := by
 unfold ParseRet; rw [h]; exact ⟨rfl, hb⟩
theorem ParseRet.yes {l : List UInt8} {a b : Int} {w w' : World} (h : PhS.parseP l = some (a, b)) (hb : Below w.heap.size w w') : ParseRet l w (.returned (.tuple #[.agg #[.int .i64 a, .int .i64 b], .int .i64 0])) w' := by
 unfold ParseRet; rw [h]; exact ⟨rfl, hb⟩
def AtIs (s : ByteArray) (v : Value) : Prop := v = .int .i64 (PhS.cutAt s.data.toList)
def AtLoop (s : ByteArray) (a i : Value) : Prop := ∃ k : Nat, 1 <= k /\ k <= s.size /\ i = .int .i64 k /\ a = .int .i64 ((max (PhS.lastW PhS.isSign (s.data.toList.take k)) 0).toNat : Int)
theorem last_byte {s : ByteArray} (h : 0 < s.size) : s.data.toList.getLast? = some s[s.size - 1] := by
 obtain ⟨⟨l⟩⟩ := s
 have hl : 0 < l.length := h
 show l.getLast? = some (l[l.length - 1])
 rw [List.getLast?_eq_getElem?, List.getElem?_eq_getElem]
theorem isSign_yes {c : UInt8} (h : (c.toNat : Int) = 43 \/ (c.toNat : Int) = 45) : PhS.isSign c = true := by
 rcases h with h | h
 · rw [u8_of (n := 43) (by decide) h]; rfl
 · rw [u8_of (n := 45) (by decide) h]; rfl
theorem isSign_not {c : UInt8} (h1 : ¬ (c.toNat : Int) = 43) (h2 : ¬ (c.toNat : Int) = 45) : PhS.isSign c = false := by
 unfold PhS.isSign
 rw [Bool.or_eq_false_iff, beq_eq_false_iff_ne, beq_eq_false_iff_ne]
 exact ⟨fun e => h1 (by rw [e]; rfl), fun e => h2 (by rw [e]; rfl)⟩
theorem cut_end {s : ByteArray} (h : 0 < s.size) (ci : (s[s.size - 1].toNat : Int) = 105) : PhS.cutAt s.data.toList = (max (PhS.lastW PhS.isSign s.data.toList) 0).toNat := by
 unfold PhS.cutAt
 have hg := last_byte h
 rw [show s[s.size - 1] = 105 from u8_of (n := 105) (by decide) ci] at hg
 rw [if_pos hg]
 obtain ⟨ys, hd⟩ := List.getLast?_eq_some_iff.1 hg
 rw [hd, PhS.dropLast_i, PhS.lastW_snoc]
 rfl
theorem cut_le (l : List UInt8) : PhS.cutAt l <= l.length := by
 unfold PhS.cutAt
 split
 · have h := PhS.lastW_lt PhS.isSign l.dropLast
   have h2 : l.dropLast.length <= l.length := by simp
   omega
 · exact Nat.le_refl _
def firstR (l : List UInt8) : Option Int := if 0 < PhS.cutAt l then PhS.numS (l.take (PhS.cutAt l)) else some 0
def bareR (l : List UInt8) : List UInt8 := (l.take (l.length - 1)).drop (PhS.cutAt l)
def secondR (l : List UInt8) : Option Int := if PhS.cutAt l < l.length then (if bareR l = [] \/ bareR l = [43] then some 1 else if bareR l = [45] then some (-1) else PhS.numS (bareR l)) else some 0
theorem parseP_R (l : List UInt8) : PhS.parseP l = match firstR l, secondR l with
 | some x, some y => if PhS.inR x y = true /\ PhS.text x y = l then some (x, y) else none
 | _, _ => none := (PhS.parseR_eq l).symm
theorem cut_len {s : ByteArray} (h : s.size = 0 \/ ∃ h : 0 < s.size, ¬ (s[s.size - 1].toNat : Int) = 105) : PhS.cutAt s.data.toList = s.size := by
 unfold PhS.cutAt
 rw [if_neg, <- Lib.size_eq]
 rcases h with h | ⟨h, hn⟩
 · have : s.data.toList = [] := List.eq_nil_of_length_eq_zero (by rw [<- Lib.size_eq]; exact h)
   rw [this]; simp
 · rw [last_byte h]
   intro e
   have e2 := Option.some.inj e
   rw [e2] at hn
   exact hn rfl
def PairAt (w wc : World) (x y : Int) : Prop := Below w.heap.size w wc /\ Whole wc w.heap.size 114 #[.int .i64 0, .int .i64 0] /\ Whole wc (w.heap.size + 1) 114 #[.int .i64 x, .int .i64 y]
theorem PairAt.made {w : World} {x y : Int} : PairAt w ((w.alloc (Obj.cells #[Value.int IntKind.i64 0, Value.int IntKind.i64 0] 114)).alloc (Obj.cells #[Value.int IntKind.i64 x, Value.int IntKind.i64 y] 114)) x y := by
 refine ⟨((Below.refl _ _).alloc (Nat.le_refl _) _).alloc (by simp) _, (Whole.made w _ _).alloc _, ?_⟩
 have := Whole.made (w.alloc (Obj.cells #[Value.int IntKind.i64 0, Value.int IntKind.i64 0] 114)) 114 #[.int .i64 x, .int .i64 y]
 simpa using this
theorem PairAt.facts {w wc : World} {x y : Int} (h : PairAt w wc x y) : wc.cell? ⟨w.heap.size, 0, none⟩ = some (.int .i64 0) /\ wc.cell? ⟨w.heap.size, 1, none⟩ = some (.int .i64 0) /\ wc.cell? ⟨w.heap.size + 1, 0, none⟩ = some (.int .i64 x) /\ wc.cell? ⟨w.heap.size + 1, 1, none⟩ = some (.int .i64 y) :=
 ⟨h.2.1.cell 0, h.2.1.cell 1, h.2.2.cell 0, h.2.2.cell 1⟩
theorem PairAt.thaw {w wc : World} {x y : Int} (h : PairAt w wc x y) : wc.frozen? ⟨w.heap.size, 0, none⟩ = false /\ wc.frozen? ⟨w.heap.size, 1, none⟩ = false /\ wc.frozen? ⟨w.heap.size + 1, 0, none⟩ = false /\ wc.frozen? ⟨w.heap.size + 1, 1, none⟩ = false :=
 ⟨h.2.1.thaw 0, h.2.1.thaw 1, h.2.2.thaw 0, h.2.2.thaw 1⟩
theorem PairAt.call {w wc w' : World} {x y : Int} (h : PairAt w wc x y) (hb : Below wc.heap.size wc w') : PairAt w w' x y :=
 ⟨h.1.trans (hb.mono h.1.size), h.2.1.call hb, h.2.2.call hb⟩
theorem PairAt.last {w wc : World} {x y : Int} (h : PairAt w wc x y) (a b : Int) : (wc.setCell ⟨w.heap.size, 0, none⟩ (.int .i64 a)).cell? ⟨w.heap.size, 0, none⟩ = some (.int .i64 a) /\
  ((wc.setCell ⟨w.heap.size, 0, none⟩ (.int .i64 a)).setCell ⟨w.heap.size, 1, none⟩ (.int .i64 b)).cell? ⟨w.heap.size, 1, none⟩ = some (.int .i64 b) /\
  (wc.setCell ⟨w.heap.size, 0, none⟩ (.int .i64 a)).frozen? ⟨w.heap.size, 1, none⟩ = false /\ (wc.setCell ⟨w.heap.size, 0, none⟩ (.int .i64 a)).cell? ⟨w.heap.size, 1, none⟩ = some (.int .i64 0) := by
 have h1 := h.2.1.put 0 (.int .i64 a)
 have h2 := h1.put 1 (.int .i64 b)
 exact ⟨h1.cell 0, h2.cell 1, h1.thaw 1, h1.cell 1⟩
theorem PairAt.ends {w wc : World} {x y : Int} (h : PairAt w wc x y) (a b : Int) : Below w.heap.size w ((wc.setCell ⟨w.heap.size, 0, none⟩ (.int .i64 a)).setCell ⟨w.heap.size, 1, none⟩ (.int .i64 b)) :=
 (h.1.setCell (Nat.le_refl _) _).setCell (Nat.le_refl _) _
theorem PairAt.second {w wc : World} {x y z : Int} (h : PairAt w wc x y) : PairAt w (wc.setCell ⟨w.heap.size + 1, 1, none⟩ (.int .i64 z)) x z := by
 refine ⟨h.1.setCell (by simp) _, h.2.1.other (by simp) _, ?_⟩
 have := h.2.2.put 1 (.int .i64 z)
 simpa using this
theorem first_le {l : List UInt8} {x : Int} (h : firstR l = some x) : x.natAbs <= 1000000000 := by
 unfold firstR at h
 split at h
 · have := PhS.numV_le (l.take (PhS.cutAt l)); unfold PhS.numV at this; rw [h] at this; exact this
 · have := Option.some.inj h; subst this; decide
theorem second_le {l : List UInt8} {x : Int} (h : secondR l = some x) : x.natAbs <= 1000000000 := by
 unfold secondR at h
 split at h
 · split at h
   · have := Option.some.inj h; subst this; decide
   · split at h
     · have := Option.some.inj h; subst this; decide
     · have := PhS.numV_le (bareR l); unfold PhS.numV at this; rw [h] at this; exact this
 · have := Option.some.inj h; subst this; decide
theorem bareR_eq {s : ByteArray} {c : Nat} (hc : PhS.cutAt s.data.toList = c) : bareR s.data.toList = (s.extract c (s.size - 1)).toList := by
 unfold bareR
 rw [hc, Lib.extract_toList, <- Lib.size_eq, List.drop_take]
def RefA (s : ByteArray) (w : World) (ok : Value) (wc : World) : Prop := ok = .bool (firstR s.data.toList).isSome /\ PairAt w wc ((firstR s.data.toList).getD 0) 0
def RefB (s : ByteArray) (w : World) (x : Int) (ok : Value) (wc : World) : Prop := ok = .bool (secondR s.data.toList).isSome /\ PairAt w wc x ((secondR s.data.toList).getD 0)
theorem refparse_some (s : ByteArray) (h1 : 0 < s.size) (hm : s.size <= 9223372036854775807) (w : World) (hE : Env w) :
  Calls Tryz.prog 85 #[.string s] w (ParseRet s.data.toList w) := by
 go_enter Tryz.func85, Tryz.ntmps85
 go_upto_if 21 with fail
 go_cut [4] (fun a wc => AtIs s a /\ wc = w.alloc (Obj.cells #[Value.int IntKind.i64 0, Value.int IntKind.i64 0] 114))
 case first =>
  by_cases ci : (s[s.size - 1].toNat : Int) = 105
  · have HC := hZ9 (cut_end h1 ci)
    go_wp2_with fail
    go_loop [4, 5] (fun a i => AtLoop s a i) (fun _ i => s.size - (intOf i).toNat)
    case atStart =>
     refine ⟨1, Nat.le_refl _, h1, rfl, ?_⟩
     have h2 := PhS.lastW_lt PhS.isSign (s.data.toList.take 1)
     have h3 : (s.data.toList.take 1).length <= 1 := by simp; omega
     have : (max (PhS.lastW PhS.isSign (s.data.toList.take 1)) 0).toNat = 0 := by omega
     rw [this]; rfl
    case round =>
     obtain ⟨k, hk1, hk, rfl, rfl⟩ := hrel
     by_cases hlt : k < s.size
     · have HT := hZ9 (PhS.take_snoc s k hlt)
       have hlen : (s.data.toList.take k).length = k := by simp; omega
       have HL := hZ9 hlen
       clear hlen
       generalize hvv : (max (PhS.lastW PhS.isSign (s.data.toList.take k)) 0).toNat = v at *
       have HV := hZ9 hvv
       clear hvv
       by_cases cs : (s[k].toNat : Int) = 43 \/ (s[k].toNat : Int) = 45
       · have HS := hZ9 (isSign_yes cs)
         rcases cs with cs | cs
         all_goals
          go_wp2
          go_round
          case rel =>
           refine ⟨k + 1, by omega, by omega, by go_num, ?_⟩
           rw [HT.out, PhS.lastW_snoc, HS.out, if_pos rfl, HL.out]
           exact int_cast (by omega)
          case measure => simp [intOf]; omega
       · have HS := hZ9 (isSign_not (fun h => cs (.inl h)) (fun h => cs (.inr h)))
         have c43 : ((s[k].toNat : Int) == 43) = false := beq_eq_false_iff_ne.2 (fun h => cs (.inl h))
         have c45 : ((s[k].toNat : Int) == 45) = false := beq_eq_false_iff_ne.2 (fun h => cs (.inr h))
         clear cs
         go_wp2
         go_round
         case rel =>
          refine ⟨k + 1, by omega, by omega, by go_num, ?_⟩
          rw [HT.out, PhS.lastW_snoc, HS.out, if_neg (by decide), HV.out]
         case measure => simp [intOf]; omega
     · have hku : k = s.size := by omega
       have hall : s.data.toList.take k = s.data.toList := List.take_of_length_le (by simp; omega)
       have hfin : AtIs s (.int .i64 ((max (PhS.lastW PhS.isSign (s.data.toList.take k)) 0).toNat : Int)) := by
        unfold AtIs; rw [hall, HC.out]
       clear hall hku
       generalize (max (PhS.lastW PhS.isSign (s.data.toList.take k)) 0).toNat = v at *
       go_wp2
       go_meet
       exact ⟨hfin, rfl⟩
  · have hfin : AtIs s (.int .i64 s.size) := by
     unfold AtIs; rw [cut_len (.inr ⟨h1, ci⟩)]
    go_wp2
    go_meet
    exact ⟨hfin, rfl⟩
 case rest =>
  obtain ⟨ha, rfl⟩ := hcut
  unfold AtIs at ha
  subst ha
  have hat := cut_le s.data.toList
  rw [<- Lib.size_eq] at hat
  generalize hcc : PhS.cutAt s.data.toList = c at *
  have HC := hZ9 hcc
  clear hcc
  go_upto_if 41 with fail
  go_cut [7] (fun ok wc => RefA s w ok wc)
  case first =>
   by_cases hc0 : 0 < c
   · have hf : firstR s.data.toList = PhS.numS (s.data.toList.take c) := by
      unfold firstR
      rw [HC.out, if_pos hc0]
     have HF := hZ9 hf
     clear hf
     go_wp2_with fail
     refine (number_c (s.extract 0 c) (by simp; omega) _).mono ?_
     rintro e w1 ⟨rfl, rfl⟩
     go_wp2_with fail
     go_meet
     unfold RefA
     rw [HF.out]
     exact ⟨rfl, PairAt.made⟩
   · have hf : firstR s.data.toList = some 0 := by
      unfold firstR
      rw [HC.out, if_neg hc0]
     go_wp2_with fail
     go_meet
     exact ⟨by rw [hf]; rfl, by rw [hf]; exact PairAt.made⟩
  case rest =>
   obtain ⟨rfl, hp⟩ := hcut
   have HR := hZ9 (parseP_R s.data.toList)
   cases hx : firstR s.data.toList with
   | none =>
    rw [hx] at hp
    replace hp : PairAt w wc 0 0 := hp
    have hnone : PhS.parseP s.data.toList = none := by rw [HR.out, hx]
    have HN := hZ9 hnone
    have HP := hZ9 hp
    obtain ⟨f1, f2, f3, f4⟩ := hp.facts
    obtain ⟨g1, g2, g3, g4⟩ := hp.thaw
    obtain ⟨k1, k2, _, _⟩ := hp.last 0 0
    clear hx hnone hp
    go_wp2_with fail
    refine bodyPost_ret (v := .tuple #[.agg #[.int .i64 0, .int .i64 0], .int .i64 2]) (by simp [results, Tryz.results85, go_sem, k1, k2]) rfl ?_
    exact ParseRet.no HN.out (HP.out.ends 0 0)
   | some x =>
    rw [hx] at hp
    replace hp : PairAt w wc x 0 := hp
    have hxb := first_le hx
    have HX := hZ9 hx
    clear hx
    go_upto_if 56 with fail
    go_cut [7] (fun ok wd => RefB s w x ok wd)
    case first =>
     have HP := hZ9 hp
     obtain ⟨f1, f2, f3, f4⟩ := hp.facts
     obtain ⟨g1, g2, g3, g4⟩ := hp.thaw
     clear hp
     by_cases hlt : c < s.size
     · have hb := bareR_eq (s := s) HC.out
       have hs2 : secondR s.data.toList = if (s.extract c (s.size - 1)).toList = [] \/ (s.extract c (s.size - 1)).toList = [43] then some 1 else if (s.extract c (s.size - 1)).toList = [45] then some (-1) else PhS.numS (s.extract c (s.size - 1)).toList := by
        unfold secondR
        rw [HC.out, <- Lib.size_eq, if_pos hlt, hb]
       have HS := hZ9 hs2
       clear hs2 hb
       by_cases u0 : (s.extract c (s.size - 1)).toList = []
       · have t0 : (s.extract c (s.size - 1)).toList.isEmpty = true := by rw [u0]; rfl
         have HT := hZ9 u0
         clear u0
         go_wp2_with fail
         go_meet
         unfold RefB
         rw [HS.out, if_pos (.inl HT.out)]
         exact ⟨rfl, HP.out.second⟩
       · have t0 : (s.extract c (s.size - 1)).toList.isEmpty = false := by
          cases hl : (s.extract c (s.size - 1)).toList with
          | nil => exact absurd hl u0
          | cons a b => rfl
         by_cases u1 : (s.extract c (s.size - 1)).toList = [43]
         · have t1 : ((s.extract c (s.size - 1)).toList == [43]) = true := by rw [u1]; rfl
           have HT := hZ9 u1
           clear u0 u1
           go_wp2_with fail
           go_meet
           unfold RefB
           rw [HS.out, if_pos (.inr HT.out)]
           exact ⟨rfl, HP.out.second⟩
         · have t1 : ((s.extract c (s.size - 1)).toList == [43]) = false := beq_eq_false_iff_ne.2 u1
           have HA := hZ9 (fun h : (s.extract c (s.size - 1)).toList = [] \/ (s.extract c (s.size - 1)).toList = [43] => h.elim u0 u1)
           by_cases u2 : (s.extract c (s.size - 1)).toList = [45]
           · have t2 : ((s.extract c (s.size - 1)).toList == [45]) = true := by rw [u2]; rfl
             have HT := hZ9 u2
             clear u0 u1 u2
             go_wp2_with fail
             go_meet
             unfold RefB
             rw [HS.out, if_neg HA.out, if_pos HT.out]
             exact ⟨rfl, HP.out.second⟩
           · have t2 : ((s.extract c (s.size - 1)).toList == [45]) = false := beq_eq_false_iff_ne.2 u2
             have HT := hZ9 u2
             clear u0 u1 u2
             go_wp2_with fail
             refine (number_c (s.extract c (s.size - 1)) (by simp; omega) _).mono ?_
             rintro e w1 ⟨rfl, rfl⟩
             go_wp2_with fail
             go_meet
             unfold RefB
             rw [HS.out, if_neg HA.out, if_neg HT.out, Lib.extract_toList]
             exact ⟨rfl, HP.out.second⟩
     · have hs2 : secondR s.data.toList = some 0 := by
        unfold secondR
        rw [HC.out, <- Lib.size_eq, if_neg hlt]
       have HS := hZ9 hs2
       clear hs2
       go_wp2_with fail
       go_meet
       unfold RefB
       rw [HS.out]
       exact ⟨rfl, HP.out⟩
    case rest =>
     obtain ⟨rfl, hq⟩ := hcut
     cases hy : secondR s.data.toList with
     | none =>
      rw [hy] at hq
      replace hq : PairAt w wc x 0 := hq
      have hnone : PhS.parseP s.data.toList = none := by rw [HR.out, hy, HX.out]
      have HN := hZ9 hnone
      have HQ := hZ9 hq
      obtain ⟨f1, f2, f3, f4⟩ := hq.facts
      obtain ⟨g1, g2, g3, g4⟩ := hq.thaw
      obtain ⟨k1, k2, _, _⟩ := hq.last 0 0
      clear hy hnone hq
      go_wp2_with fail
      refine bodyPost_ret (v := .tuple #[.agg #[.int .i64 0, .int .i64 0], .int .i64 2]) (by simp [results, Tryz.results85, go_sem, k1, k2]) rfl ?_
      exact ParseRet.no HN.out (HQ.out.ends 0 0)
     | some y =>
      rw [hy] at hq
      replace hq : PairAt w wc x y := hq
      have hyb := second_le hy
      have HY := hZ9 hy
      have HQ := hZ9 hq
      obtain ⟨f1, f2, f3, f4⟩ := hq.facts
      clear hy hq
      go_wp2_with fail
      refine (within_c x y (by omega) (by omega) _).mono ?_
      rintro e w1 ⟨rfl, hb1⟩
      have hq := HQ.out.call hb1
      clear f1 f2 f3 f4
      obtain ⟨f1, f2, f3, f4⟩ := hq.facts
      have HQ1 := hZ9 hq
      cases hi : PhS.inR x y with
      | false =>
       have HN : Hid (PhS.parseP s.data.toList = none) := by
        show PhS.parseP s.data.toList = none
        rw [HR.out, HY.out, HX.out]
        simp only
        rw [if_neg (by rw [hi]; simp)]
       obtain ⟨g1, g2, g3, g4⟩ := hq.thaw
       obtain ⟨k1, k2, _, _⟩ := hq.last 0 0
       clear hq
       go_wp2_with fail
       refine bodyPost_ret (v := .tuple #[.agg #[.int .i64 0, .int .i64 0], .int .i64 2]) (by simp [results, Tryz.results85, go_sem, k1, k2]) rfl ?_
       exact ParseRet.no HN.out (HQ1.out.ends 0 0)
      | true =>
       clear hq
       go_wp2_with fail
       refine (text_c x y hi _ (hE.below HQ1.out.1)).mono ?_
       rintro e w2 ⟨rfl, hb2⟩
       have hq := HQ1.out.call hb2
       obtain ⟨f1, f2, f3, f4⟩ := hq.facts
       obtain ⟨g1, g2, g3, g4⟩ := hq.thaw
       have HQ2 := hZ9 hq
       have hlt := Lib.toList_data s
       by_cases ht : PhS.text x y = s.toList
       · have HN : Hid (PhS.parseP s.data.toList = some (x, y)) := by
          show PhS.parseP s.data.toList = some (x, y)
          rw [HR.out, HY.out, HX.out]
          simp only
          rw [if_pos ⟨hi, ht.trans hlt⟩]
         have ht2 : (PhS.text x y == s.toList) = true := by rw [ht]; exact beq_self_eq_true _
         obtain ⟨k1, k2, _, _⟩ := hq.last x y
         clear ht hlt hq
         go_wp2_with fail
         refine bodyPost_ret (v := .tuple #[.agg #[.int .i64 x, .int .i64 y], .int .i64 0]) (by simp [results, Tryz.results85, go_sem, k1, k2]) rfl ?_
         exact ParseRet.yes HN.out (HQ2.out.ends x y)
       · have HN : Hid (PhS.parseP s.data.toList = none) := by
          show PhS.parseP s.data.toList = none
          rw [HR.out, HY.out, HX.out]
          simp only
          rw [if_neg (fun h => ht (h.2.trans hlt.symm))]
         have ht2 : (PhS.text x y == s.toList) = false := beq_eq_false_iff_ne.2 ht
         obtain ⟨k1, k2, _, _⟩ := hq.last 0 0
         clear ht hlt hq
         go_wp2_with fail
         refine bodyPost_ret (v := .tuple #[.agg #[.int .i64 0, .int .i64 0], .int .i64 2]) (by simp [results, Tryz.results85, go_sem, k1, k2]) rfl ?_
         exact ParseRet.no HN.out (HQ2.out.ends 0 0)
theorem refparse_none (w : World) (hE : Env w) :
  Calls Tryz.prog 85 #[.string ByteArray.empty] w (ParseRet [] w) := by
 have HN : Hid (PhS.parseP [] = none) := by
  show PhS.parseP [] = none
  cases h : PhS.parseP [] with
  | none => rfl
  | some p =>
   obtain ⟨a, b⟩ := p
   have h2 := (PhS.parseP_some.1 h).2
   have : PhS.firstOf [] = [] := rfl
   unfold PhS.parseP at h
   rw [if_neg (by rintro ⟨h3, _⟩; revert h3; decide)] at h
   cases h
 have hp : PairAt w ((w.alloc (Obj.cells #[Value.int IntKind.i64 0, Value.int IntKind.i64 0] 114)).alloc (Obj.cells #[Value.int IntKind.i64 0, Value.int IntKind.i64 0] 114)) 0 0 := PairAt.made
 go_enter Tryz.func85, Tryz.ntmps85
 go_wp2_with fail
 refine (within_c 0 0 (by omega) (by omega) _).mono ?_
 rintro e w1 ⟨rfl, hb1⟩
 have hi : PhS.inR 0 0 = true := by decide
 have hq := hp.call hb1
 obtain ⟨f1, f2, f3, f4⟩ := hq.facts
 have HQ1 := hZ9 hq
 clear hp hb1
 go_wp2_with fail
 refine (text_c 0 0 hi _ (hE.below HQ1.out.1)).mono ?_
 rintro e w2 ⟨rfl, hb2⟩
 have hq := HQ1.out.call hb2
 obtain ⟨f1, f2, f3, f4⟩ := hq.facts
 obtain ⟨g1, g2, g3, g4⟩ := hq.thaw
 obtain ⟨k1, k2, _, _⟩ := hq.last 0 0
 have HQ2 := hZ9 hq
 have ht : PhS.text 0 0 = [48] := PhS.itoa_zero
 clear hq hb2
 go_wp2_with fail
 refine bodyPost_ret (v := .tuple #[.agg #[.int .i64 0, .int .i64 0], .int .i64 2]) (by simp [results, Tryz.results85, go_sem, k1, k2]) rfl ?_
 exact ParseRet.no HN.out (HQ2.out.ends 0 0)
theorem refparse_c (s : ByteArray) (hm : s.size <= 9223372036854775807) (w : World) (hE : Env w) :
  Calls Tryz.prog 85 #[.string s] w (ParseRet s.data.toList w) := by
 by_cases h0 : s.size = 0
 · have hs : s = ByteArray.empty := by
    obtain ⟨⟨l⟩⟩ := s
    cases l with
    | nil => rfl
    | cons c r => have h1 : (c :: r).length = 0 := h0; cases h1
   subst hs
   exact refparse_none w hE
 · exact refparse_some s (by omega) hm w hE
end
end Go.Proofs.YtjmfknfponjgkaaGreatDoor
