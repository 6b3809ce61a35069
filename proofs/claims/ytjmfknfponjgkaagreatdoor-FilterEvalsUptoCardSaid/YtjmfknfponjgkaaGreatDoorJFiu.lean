/- The walks of how the program evaluates a filter. Conditions: as stated. -/
import Derived.Test.YtjmfknfponjgkaaGreatDoorJFiq
import Derived.Test.YtjmfknfponjgkaaGreatDoorJEna
set_option maxRecDepth 100000
set_option maxHeartbeats 16000000
namespace Go.Proofs.YtjmfknfponjgkaaGreatDoor
section
namespace FiS
theorem mem_typedE {t x : List UInt8} : ∀ {A : List EnS.At}, x ∈ typedE t A ↔ ∃ a ∈ A, (RuS.typeOf a.typ).1 = t /\ x ∈ a.vals
 | [] => by simp [typedE]
 | a :: r => by
  rw [typedE, List.mem_append, mem_typedE (A := r)]
  constructor
  · rintro (h | ⟨b, hb, h1, h2⟩)
    · split at h
      · rename_i ht
        exact ⟨a, List.mem_cons_self .., ht, h⟩
      · cases h
    · exact ⟨b, List.mem_cons_of_mem _ hb, h1, h2⟩
  · rintro ⟨b, hb, h1, h2⟩
    rcases List.mem_cons.1 hb with rfl | hb
    · left; rw [if_pos h1]; exact h2
    · exact .inr ⟨b, hb, h1, h2⟩
theorem typed_yes {t : List UInt8} {A : List EnS.At} {P : List UInt8 -> Bool} {j m : Nat} (hj : j < A.length) (ht : (RuS.typeOf (A[j]'hj).typ).1 = t) (hm : m < (A[j]'hj).vals.length) (h : P ((A[j]'hj).vals[m]'hm) = true) : (typedE t A).any P = true :=
 List.any_eq_true.2 ⟨_, mem_typedE.2 ⟨_, List.getElem_mem hj, ht, List.getElem_mem hm⟩, h⟩
theorem typed_no {t : List UInt8} {A : List EnS.At} {P : List UInt8 -> Bool} (h : ∀ j (hj : j < A.length), (RuS.typeOf (A[j]'hj).typ).1 = t -> ∀ x ∈ (A[j]'hj).vals, P x = false) : (typedE t A).any P = false := by
 rw [List.any_eq_false]
 intro x hx
 obtain ⟨a, ha, h1, h2⟩ := mem_typedE.1 hx
 obtain ⟨j, hj, rfl⟩ := List.mem_iff_getElem.1 ha
 rw [h j hj h1 x h2]; simp
end FiS
open Go.RowKit
open FiS (Fi)
attribute [local go_sem ↓] Go.wp_at_zero Go.wp_at_succ
def FitT (A : List EnS.At) : Prop := FitA A /\ ∀ x ∈ A, x.typ.length <= 1048576
def IntR (r : Int) (w : World) (e : Ending) (w' : World) : Prop := e = .returned (.int .i64 r) /\ Below w.heap.size w w'
theorem evleaf_c (n : Nat) (x : Fi) (v u : Value) (A : List EnS.At) (w : World) (h : FiIn n w v x) (hwd : FiS.wdF 20000 x) (hA : AttrsIn w u A) (hf : FitT A) (hE : Env w) : Calls Tryz.prog 38 #[v, u] w (IntR (FiS.leafE A x.kind x.attr x.value x.first x.last x.any) w) := by
 obtain ⟨⟨hAl, hAv⟩, hAt⟩ := hf
 have hsz : x.attr.length <= 20000 /\ x.value.length <= 20000 := by
  cases x
  rw [FiS.wdF] at hwd
  exact ⟨hwd.1.1, hwd.1.2.1⟩
 have HVAL : Hid (∀ (t : List UInt8) (sy : Int) (W : World), (RuS.typeOf x.attr).2 = sy -> FiIn n W v x -> t.length <= 1000000 -> Env W -> Calls Tryz.prog 54 #[v, .string ⟨t.toArray⟩, .int .i64 sy] W (BoolR (FiS.valueE x.kind x.attr x.value x.first x.last x.any t) W)) := hZ9 (fun t sy W hs h ht hE => flvalue_c n x v t sy hs W h hwd ht hE)
 obtain ⟨PF, hPF⟩ : ∃ f : List UInt8 -> Bool, (fun y => decide (x.kind = 7) || FiS.valueE x.kind x.attr x.value x.first x.last x.any y) = f := ⟨_, rfl⟩
 have HPF : Hid (∀ y, PF y = (decide (x.kind = 7) || FiS.valueE x.kind x.attr x.value x.first x.last x.any y)) := hZ9 (fun y => (congrFun hPF y).symm)
 have HLE : Hid (FiS.leafE A x.kind x.attr x.value x.first x.last x.any = if FiS.stuckE x.kind x.attr x.value = true then -1 else if (FiS.typedE (RuS.typeOf x.attr).1 A).any PF = true then 1 else 0) := hZ9 (by unfold FiS.leafE; rw [<- hPF])
 obtain ⟨R, hR⟩ : ∃ r, FiS.leafE A x.kind x.attr x.value x.first x.last x.any = r := ⟨_, rfl⟩
 rw [hR] at HLE ⊢
 clear hR hPF
 obtain ⟨VE, hVE⟩ : ∃ f : List UInt8 -> Bool, (fun y => FiS.valueE x.kind x.attr x.value x.first x.last x.any y) = f := ⟨_, rfl⟩
 have hVE2 : ∀ y, FiS.valueE x.kind x.attr x.value x.first x.last x.any y = VE y := fun y => congrFun hVE y
 simp only [hVE2] at HVAL HPF
 clear hVE hVE2
 have HST : Hid (FiS.stuckE x.kind x.attr x.value = (decide ((RuS.typeOf x.attr).2 = 0) || (decide (x.kind = 4) && decide (2 < (RuS.typeOf x.attr).2)) || ((decide (x.kind = 5) || decide (x.kind = 6)) && (decide ((RuS.typeOf x.attr).2 = 2) || decide ((RuS.typeOf x.attr).2 = 5))) || (decide (x.kind ≠ 4) && decide (x.kind ≠ 7) && decide ((DnS.valueS x.attr x.value).2 ≠ 0)))) := hZ9 rfl
 have HH := hZ9 h
 obtain ⟨a5, c5, a6, c6, hv, _, _, _⟩ := FiV.parts h
 have hty : ∀ W, Calls Tryz.prog 52 #[.string ⟨x.attr.toArray⟩] W (TypeRet x.attr W) := fun W => type_c ⟨x.attr.toArray⟩ (by rw [bsize]; omega) W
 have hdv := fun W hE => dnvalue_c x.attr x.value (by omega) (by omega) W hE
 unfold TypeRet at hty
 unfold NmTxt at hdv
 obtain ⟨B, hB⟩ : ∃ b, FiS.stuckE x.kind x.attr x.value = b := ⟨_, rfl⟩
 rw [hB] at HST HLE
 clear hB h hsz
 generalize DnS.valueS x.attr x.value = DV at *
 generalize RuS.typeOf x.attr = TT at *
 obtain ⟨Tn, sy⟩ := TT
 obtain ⟨D1, D2⟩ := DV
 simp only at hty hdv HVAL HST HLE
 generalize x.any.length = AL at *
 generalize x.parts.length = PL at *
 generalize x.kind = kd at *
 generalize x.attr = at0 at *
 generalize x.value = vl at *
 generalize x.first = fs at *
 generalize x.last = ls at *
 subst hv
 unfold IntR BoolR at *
 have hg0 := grow1 w (.cells #[.int .i64 kd, .string ⟨at0.toArray⟩, .string ⟨vl.toArray⟩, .string ⟨fs.toArray⟩, .string ⟨ls.toArray⟩, .slice a5 AL c5, .slice a6 PL c6] 33)
 have hw0 := Whole.made w 33 #[.int .i64 kd, .string ⟨at0.toArray⟩, .string ⟨vl.toArray⟩, .string ⟨fs.toArray⟩, .string ⟨ls.toArray⟩, .slice a5 AL c5, .slice a6 PL c6]
 obtain ⟨q0, q1, q2, q3, q4, q5, q6⟩ := hw0.seven
 obtain ⟨aa, ac, rfl, hac, hat⟩ := SliceP.at hA
 have HAT := hZ9 hat
 have HAV := hZ9 (fun j (hj : j < A.length) => (hAv A[j] (List.getElem_mem hj)))
 have HATY := hZ9 (fun j (hj : j < A.length) => hAt A[j] (List.getElem_mem hj))
 have HYES := hZ9 (fun j m (hj : j < A.length) (ht : (RuS.typeOf (A[j]'hj).typ).1 = Tn) (hm : m < (A[j]'hj).vals.length) (h : PF ((A[j]'hj).vals[m]'hm) = true) => FiS.typed_yes (P := PF) hj ht hm h)
 have HNO := hZ9 (@FiS.typed_no Tn A PF)
 clear hat hA hAv hAt
 obtain ⟨NA, hNA⟩ : ∃ k, A.length = k := ⟨_, rfl⟩
 have HNA := hZ9 hNA
 rw [hNA] at hac hAl ⊢
 clear hNA
 go_enter Tryz.func38, Tryz.ntmps38
 go_wp2_with fail
 refine (hty _).mono ?_; rintro e w2 ⟨rfl, hb2⟩
 have hz2 := hg0.trans (hb2.mono hg0.size)
 have hw2 := hw0.call hb2
 clear q0 q1 q2 q3 q4 q5 q6 hb2
 obtain ⟨q0, q1, q2, q3, q4, q5, q6⟩ := hw2.seven
 have hdv2 := hdv w2 (hE.below hz2)
 clear hdv
 go_wp2_with fail
 refine hdv2.mono ?_; rintro e w3 ⟨rfl, hb3⟩
 have hz3 := hz2.trans (hb3.mono hz2.size)
 have hw3 := hw2.call hb3
 clear q0 q1 q2 q3 q4 q5 q6 hdv2 hb3 hw2 hw0 hz2 hg0
 obtain ⟨q0, q1, q2, q3, q4, q5, q6⟩ := hw3.seven
 go_upto_block 0 with fail
 have HRM : Hid (B = true -> R = -1) := hZ9 (fun h => by rw [HLE.out, h]; rfl)
 go_cut [29] (fun b wd => B = false /\ wd = w3)
 case first =>
  clear HAT HAV HATY HYES HNO HVAL HPF HLE hty HH
  by_cases h0 : sy = 0
  case pos =>
   have HB : Hid (B = true) := hZ9 (by rw [HST.out]; simp [h0])
   subst h0
   clear HST
   have HRR := hZ9 (HRM.out HB.out)
   go_wp2_with fail
   go_ret
   exact ⟨by (rw [HRR.out]) <;> rfl, hz3⟩
  have e0 : (sy == 0) = false := by simpa using h0
  by_cases h4 : kd = 4
  case pos =>
   subst h4
   by_cases h2 : 2 < sy
   · have HB : Hid (B = true) := hZ9 (by rw [HST.out]; simp [h2])
     have e2 : decide (2 < sy) = true := decide_eq_true h2
     clear HST
     have HRR := hZ9 (HRM.out HB.out)
     go_wp2_with fail
     go_ret
     exact ⟨by (rw [HRR.out]) <;> rfl, hz3⟩
   · have HB : Hid (B = false) := hZ9 (by rw [HST.out]; simp [h2, h0])
     have e2 : decide (2 < sy) = false := decide_eq_false h2
     clear HST
     go_wp2_with fail
     go_meet
     exact ⟨HB.out, rfl⟩
  have e4 : (kd == 4) = false := by simpa using h4
  have e4n : (kd != 4) = true := by simpa using h4
  by_cases h7 : kd = 7
  case pos =>
   subst h7
   have HB : Hid (B = false) := hZ9 (by rw [HST.out]; simp [h0])
   clear HST
   go_wp2_with fail
   go_meet
   exact ⟨HB.out, rfl⟩
  have e7 : (kd == 7) = false := by simpa using h7
  have e7n : (kd != 7) = true := by simpa using h7
  by_cases hs : sy = 2 \/ sy = 5
  case pos =>
   have es : (sy == 2) = true \/ ((sy == 2) = false /\ (sy == 5) = true) := by
    by_cases h2 : sy = 2
    · exact .inl (by simpa using h2)
    · exact .inr ⟨by simpa using h2, by simpa using hs.resolve_left h2⟩
   by_cases h56 : kd = 5 \/ kd = 6
   case pos =>
    have HB : Hid (B = true) := hZ9 (by rw [HST.out]; rcases h56 with h | h <;> rcases hs with h' | h' <;> simp [h, h'])
    have ek : (kd == 5) = true \/ ((kd == 5) = false /\ (kd == 6) = true) := by
     by_cases h2 : kd = 5
     · exact .inl (by simpa using h2)
     · exact .inr ⟨by simpa using h2, by simpa using h56.resolve_left h2⟩
    clear HST hs h56
    rcases es with s2 | ⟨s2, s5⟩
    all_goals rcases ek with k5 | ⟨k5, k6⟩
    all_goals (
     have HRR := hZ9 (HRM.out HB.out)
     go_wp2_with fail
     go_ret
     exact ⟨by (rw [HRR.out]) <;> rfl, hz3⟩)
   have k5 : (kd == 5) = false := by simpa using fun h => h56 (.inl h)
   have k6 : (kd == 6) = false := by simpa using fun h => h56 (.inr h)
   by_cases hd : D2 = 0
   · have HB : Hid (B = false) := hZ9 (by rw [HST.out]; simp [h0, h4, hd]; intro h; exact absurd h h56)
     have ed : (D2 != 0) = false := by simpa using hd
     clear HST hs h56
     go_wp2_with fail
     go_meet
     exact ⟨HB.out, rfl⟩
   · have HB : Hid (B = true) := hZ9 (by rw [HST.out]; simp [h4, h7, hd])
     have ed : (D2 != 0) = true := by simpa using hd
     clear HST hs h56
     have HRR := hZ9 (HRM.out HB.out)
     go_wp2_with fail
     go_ret
     exact ⟨by (rw [HRR.out]) <;> rfl, hz3⟩
  have s2 : (sy == 2) = false := by simpa using fun h => hs (.inl h)
  have s5 : (sy == 5) = false := by simpa using fun h => hs (.inr h)
  have hs2 : ¬ sy = 2 := fun h => hs (.inl h)
  have hs5 : ¬ sy = 5 := fun h => hs (.inr h)
  have ek : (kd == 5) = true \/ ((kd == 5) = false /\ (kd == 6) = true) \/ ((kd == 5) = false /\ (kd == 6) = false) := by
   cases (kd == 5) <;> cases (kd == 6) <;> simp
  by_cases hd : D2 = 0
  · have HB : Hid (B = false) := hZ9 (by rw [HST.out]; simp [h0, h4, hd, hs2, hs5])
    have ed : (D2 != 0) = false := by simpa using hd
    clear HST hs
    rcases ek with k5 | ⟨k5, k6⟩ | ⟨k5, k6⟩
    all_goals (
     go_wp2_with fail
     go_meet
     exact ⟨HB.out, rfl⟩)
  · have HB : Hid (B = true) := hZ9 (by rw [HST.out]; simp [h4, h7, hd])
    have ed : (D2 != 0) = true := by simpa using hd
    clear HST hs
    rcases ek with k5 | ⟨k5, k6⟩ | ⟨k5, k6⟩
    all_goals (
     have HRR := hZ9 (HRM.out HB.out)
     go_wp2_with fail
     go_ret
     exact ⟨by (rw [HRR.out]) <;> rfl, hz3⟩)
 case rest =>
  obtain ⟨hBf, rfl⟩ := hcut
  subst hBf
  clear HST HRM
  have HRR : Hid (R = if (FiS.typedE Tn A).any PF = true then 1 else 0) := hZ9 (by rw [HLE.out]; rfl)
  clear HLE
  have hbn : (kd == 7) = decide (kd = 7) := by by_cases h : kd = 7 <;> simp [h]
  go_wp2_with fail
  clear q0 q1 q2 q3 q4 q5 q6
  go_loopw [69] (fun i wr => ∃ j : Nat, j <= NA /\ i = .int .i64 j /\ Whole wr w.heap.size 33 #[.int .i64 kd, .string ⟨at0.toArray⟩, .string ⟨vl.toArray⟩, .string ⟨fs.toArray⟩, .string ⟨ls.toArray⟩, .slice a5 AL c5, .slice a6 PL c6] /\ Below w.heap.size w wr /\ Hid (∀ t (ht : t < A.length), t < j -> (RuS.typeOf (A[t]'ht).typ).1 = Tn -> ∀ y ∈ (A[t]'ht).vals, PF y = false)) (fun i _ => NA - (intOf i).toNat)
  case atStart => exact ⟨0, Nat.zero_le _, rfl, hw3, hz3, hZ9 (fun t ht h => absurd h (Nat.not_lt_zero _))⟩
  case round =>
   obtain ⟨j, hj, rfl, hw, hb, HALL⟩ := hrel
   clear hw3 hz3
   by_cases hlt : j < NA
   · have hlt2 : j < A.length := by rw [HNA.out]; exact hlt
     have hyj := HYES.out j
     obtain ⟨g, o, rfl, hg, _, hra⟩ := HAT.out j hlt2
     obtain ⟨c0, a2, p2, c1, hp2, hu⟩ := AttrAt.parts hra
     have htl := HATY.out j hlt2
     obtain ⟨hvn, hvl2⟩ := HAV.out j hlt2
     have HSTEP : Hid (((RuS.typeOf (A[j]'hlt2).typ).1 = Tn -> ∀ y ∈ (A[j]'hlt2).vals, PF y = false) -> ∀ t (ht : t < A.length), t < j + 1 -> (RuS.typeOf (A[t]'ht).typ).1 = Tn -> ∀ y ∈ (A[t]'ht).vals, PF y = false) := hZ9 (fun h t ht htj => by
      rcases Nat.lt_or_eq_of_le (Nat.le_of_lt_succ htj) with h2 | rfl
      · exact HALL.out t ht h2
      · exact h)
     have HYJ : Hid (∀ m (hm : m < (A[j]'hlt2).vals.length), (RuS.typeOf (A[j]'hlt2).typ).1 = Tn -> PF ((A[j]'hlt2).vals[m]'hm) = true -> R = 1) := hZ9 (fun m hm ht hp => by rw [HRR.out, if_pos (hyj m hlt2 ht hm hp)])
     clear hra HAT HATY HAV HYES HNO HALL hyj HRR
     generalize A[j] = at1 at *
     obtain ⟨ty, vals⟩ := at1
     simp only at c0 c1 hp2 hu htl hvn hvl2 HSTEP HYJ
     obtain ⟨n2, hn2⟩ : ∃ k, vals.length = k := ⟨_, rfl⟩
     have HN2 := hZ9 hn2
     rw [hn2] at c1 hp2 hvn hu
     clear hn2
     replace c0 : wr.cell? ⟨g, o + j * 2, none⟩ = some (.string ⟨ty.toArray⟩) := (hb.cell (p := ⟨g, o + j * 2, none⟩) hg).trans c0
     replace c1 : wr.cell? ⟨g, o + j * 2 + 1, none⟩ = some (.slice a2 n2 p2) := (hb.cell (p := ⟨g, o + j * 2 + 1, none⟩) hg).trans c1
     have hty2 : ∀ W, Calls Tryz.prog 52 #[.string ⟨ty.toArray⟩] W (TypeRet ty W) := fun W => type_c ⟨ty.toArray⟩ (by rw [bsize]; omega) W
     unfold TypeRet at hty2
     have hgA := grow1 wr (.cells #[.string ⟨ty.toArray⟩, .slice a2 n2 p2] 39)
     have hwA := Whole.made wr 39 #[.string ⟨ty.toArray⟩, .slice a2 n2 p2]
     have hbA := hb.trans (hgA.mono hb.size)
     have hwbA := hw.call hgA
     have z0 := hwA.cell 0
     simp only [List.getElem?_toArray, List.getElem?_cons_zero] at z0
     have hj0 : (0 : Int) <= (j : Int) := by omega
     have hj1 : (j : Int) < (NA : Int) := by omega
     generalize RuS.typeOf ty = TY at *
     obtain ⟨ty1, ty2⟩ := TY
     simp only at hty2 HSTEP HYJ
     clear hw hgA hb
     go_wp2_with fail
     refine (hty2 _).mono ?_; rintro e w4 ⟨rfl, hb4⟩
     have hz4 := hbA.trans (hb4.mono hbA.size)
     have hw4 := hwbA.call hb4
     have hwA4 := hwA.call hb4
     have z1 := hwA4.cell 1
     simp only [List.getElem?_toArray, List.getElem?_cons_succ, List.getElem?_cons_zero] at z1
     clear hty2 hwbA hwA z0 c0 c1 hbA hb4 hwA4
     by_cases hq : ty1 = Tn
     case neg =>
      have hq1 : (ty1 != Tn) = true := by simpa using hq
      have hq2 : (ty1 == Tn) = false := by simpa using hq
      have HS2 := hZ9 (HSTEP.out (fun h => absurd h hq))
      clear HSTEP HYJ hq
      go_wp2_with fail
      go_roundw
      case rel => exact ⟨j + 1, by omega, by go_num, hw4, hz4, HS2⟩
      case measure => simp [intOf]; omega
     subst hq
     have hq1 : (ty1 != ty1) = false := by simp
     obtain ⟨a3, c3, e3, hc3, hat3⟩ := SliceP.at hu
     injection e3 with e4 e5 e6
     rw [<- e4] at hat3
     have HA3 := hZ9 hat3
     clear hat3 e4 e5 e6 hu hc3
     go_wp2_with fail
     clear z1
     go_loopw [85] (fun i wn => ∃ m : Nat, m <= n2 /\ i = .int .i64 m /\ Whole wn w.heap.size 33 #[.int .i64 kd, .string ⟨at0.toArray⟩, .string ⟨vl.toArray⟩, .string ⟨fs.toArray⟩, .string ⟨ls.toArray⟩, .slice a5 AL c5, .slice a6 PL c6] /\ Below w.heap.size w wn /\ Hid (∀ t (ht : t < vals.length), t < m -> PF (vals[t]'ht) = false)) (fun i _ => n2 - (intOf i).toNat)
     case atStart => exact ⟨0, Nat.zero_le _, rfl, hw4, hz4, hZ9 (fun t ht h => absurd h (Nat.not_lt_zero _))⟩
     case round =>
      obtain ⟨m, hm, rfl, hw, hb, HV⟩ := hrel
      clear hw4 hz4
      obtain ⟨q0, q1, q2, q3, q4, q5, q6⟩ := hw.seven
      by_cases hltm : m < n2
      · have hltm2 : m < vals.length := by rw [HN2.out]; exact hltm
        obtain ⟨g3, o3, hae, hg3, _, hrx⟩ := HA3.out m hltm2
        have hvm := hvl2 _ (List.getElem_mem hltm2)
        have HY1 := hZ9 (HYJ.out m hltm2 (by first | rfl | trivial))
        have HVS : Hid (PF (vals[m]'hltm2) = false -> ∀ t (ht : t < vals.length), t < m + 1 -> PF (vals[t]'ht) = false) := hZ9 (fun h t ht htm => by
         rcases Nat.lt_or_eq_of_le (Nat.le_of_lt_succ htm) with h2 | rfl
         · exact HV.out t ht h2
         · exact h)
        generalize vals[m] = y at *
        have c3' : wr.cell? ⟨g3, o3 + m, none⟩ = wr.cell? ⟨g3, o3 + m, none⟩ := rfl
        subst hae
        have hcy : ∀ W, Below w.heap.size w W -> W.cell? ⟨g3, o3 + m, none⟩ = some (.string ⟨y.toArray⟩) := fun W hbW => by
         have : w.cell? ⟨g3, o3 + m * 1, none⟩ = some (strV y) := hrx
         rw [Nat.mul_one] at this
         exact keepC this hbW
        have hy0 := hcy _ hb
        have hm0 : (0 : Int) <= (m : Int) := by omega
        have hm1 : (m : Int) < (n2 : Int) := by omega
        have HPY := hZ9 (HPF.out y)
        have hval := HVAL.out y sy _ rfl (HH.out.call hb) hvm (hE.below hb)
        clear hcy hrx c3' HVAL HH HA3 HPF HYJ HV
        by_cases h7 : kd = 7
        case pos =>
         have hk7 : (kd == 7) = true := by simpa using h7
         have HR1 : Hid (R = 1) := hZ9 (HY1.out (by rw [HPY.out]; simp [h7]))
         clear hval HY1 HVS HPY h7 hbn HSTEP
         go_wp2_with fail
         go_ret
         exact ⟨by (rw [HR1.out]) <;> rfl, hb⟩
        have hk7 : (kd == 7) = false := by simpa using h7
        have HPY2 : Hid (PF y = VE y) := hZ9 (by rw [HPY.out]; simp [h7])
        obtain ⟨vy, hvy⟩ : ∃ b, VE y = b := ⟨_, rfl⟩
        rw [hvy] at hval HPY2
        clear hvy HPY h7 hbn
        cases vy with
        | true =>
         have HR1 : Hid (R = 1) := hZ9 (HY1.out HPY2.out)
         clear HY1 HVS HPY2 HSTEP
         go_wp2_with fail
         refine hval.mono ?_; rintro e w5 ⟨rfl, hb5⟩
         have hz5 := hb.trans (hb5.mono hb.size)
         clear hval q0 q1 q2 q3 q4 q5 q6
         go_wp2_with fail
         go_ret
         exact ⟨by (rw [HR1.out]) <;> rfl, hz5⟩
        | false =>
         have HV2 := hZ9 (HVS.out HPY2.out)
         clear HY1 HVS HPY2 HSTEP
         go_wp2_with fail
         refine hval.mono ?_; rintro e w5 ⟨rfl, hb5⟩
         have hz5 := hb.trans (hb5.mono hb.size)
         have hw5 := hw.call hb5
         clear hval q0 q1 q2 q3 q4 q5 q6 hw hb5
         go_wp2_with fail
         go_roundw
         case rel => exact ⟨m + 1, by omega, by go_num, hw5, hz5, HV2⟩
         case measure => simp [intOf]; omega
      · have hmn : m = n2 := by omega
        have HS2 := hZ9 (HSTEP.out (fun _ y hy => by
         obtain ⟨t, ht, rfl⟩ := List.mem_iff_getElem.1 hy
         exact HV.out t ht (by rw [HN2.out] at ht; omega)))
        subst hmn
        clear HSTEP HYJ HVAL HH HA3 HPF HV
        go_wp2_with fail
        go_roundw
        case rel => exact ⟨j + 1, by omega, by go_num, hw, hb, HS2⟩
        case measure => simp [intOf]; omega
   · have hjn : j = NA := by omega
     have HR0 : Hid (R = 0) := hZ9 (by rw [HRR.out, if_neg]; rw [HNO.out (fun t ht h y hy => HALL.out t ht (by rw [HNA.out] at ht; omega) h y hy)]; simp)
     subst hjn
     clear HAT HATY HAV HYES HNO HALL HRR HVAL HPF HH
     go_wp2_with fail
     go_ret
     exact ⟨by (rw [HR0.out]) <;> rfl, hb⟩
end
section
namespace FiS
theorem allL_iff : ∀ {ps : List Fi}, allL ps = true -> ∀ j (hj : j < ps.length), allS (ps[j]'hj) = true
 | [], _, j, hj => by simp at hj
 | p :: r, h, 0, _ => by rw [allL, Bool.and_eq_true] at h; exact h.1
 | p :: r, h, j + 1, hj => by
  rw [allL, Bool.and_eq_true] at h
  exact allL_iff h.2 j (by simpa using hj)
theorem not_one {a v f l : List UInt8} {s : List (List UInt8)} {ps : List Fi} (h : bareS (.mk 2 a v f l s ps) = true) : ps.length = 1 := by
 have h : bareM 2 a v f l s ps.length = true := h
 unfold bareM at h
 rw [if_neg (by decide), if_pos rfl] at h
 simp only [Bool.and_eq_true, decide_eq_true_eq] at h
 exact h.2
end FiS
open Go.RowKit
open FiS (Fi)
attribute [local go_sem ↓] Go.wp_at_zero Go.wp_at_succ
theorem fltruth_c (b : Bool) (w : World) : Calls Tryz.prog 37 #[.bool b] w fun e w' => e = .returned (.int .i64 (if b = true then 1 else 0)) /\ w = w' := by
 cases b
 all_goals
  go_enter Tryz.func37, Tryz.ntmps37
  go_wp2_with fail
  go_ret
  exact ⟨rfl, rfl⟩
def EvC (A : List EnS.At) (n : Nat) : Prop := ∀ (x : Fi) (v u : Value) (w : World), FiIn n w v x -> FiS.wdF 20000 x -> FiS.allS x = true -> AttrsIn w u A -> FitT A -> Env w -> Calls Tryz.prog 25 #[v, u] w (IntR (FiS.evalE A x) w)
theorem flev_c (A : List EnS.At) : ∀ n, EvC A n := deep_ind (fun n IH => by
 unfold EvC at *
 intro x v u w h hwd hall hA hf hE
 have hlf := fun W h hA hE => evleaf_c n x v u A W h hwd hA hf hE
 have HH := hZ9 h
 obtain ⟨kd, at0, vl, fs, ls, an, ps⟩ := x
 obtain ⟨a5, c5, a6, c6, hv, hss, hc6, hps⟩ := FiV.parts h
 have hv : v = .agg #[.int .i64 kd, .string ⟨at0.toArray⟩, .string ⟨vl.toArray⟩, .string ⟨fs.toArray⟩, .string ⟨ls.toArray⟩, .slice a5 an.length c5, .slice a6 ps.length c6] := hv
 subst hv
 have hss : StrsIn w (.slice a5 an.length c5) an := hss
 have hc6 : ps.length <= c6 := hc6
 have hps : FisP n (fun _ => True) w (.slice a6 ps.length c6) ps := hps
 rw [FiS.wdF] at hwd
 obtain ⟨_, _, _, hpl, hwl⟩ := hwd
 have HWD := hZ9 (FiS.wdL_iff.1 hwl)
 clear hwl
 rw [FiS.allS, Bool.and_eq_true] at hall
 obtain ⟨hbare, hallL⟩ := hall
 have HAL2 := hZ9 (FiS.allL_iff hallL)
 have HEV : Hid (FiS.evalE A (.mk kd at0 vl fs ls an ps) = if kd = 0 \/ kd = 1 then FiS.evalG A kd (1 - kd) ps else if kd = 2 then FiS.notE (FiS.evalH A ps) else FiS.leafE A kd at0 vl fs ls an) := hZ9 (by rw [FiS.evalE])
 obtain ⟨R, hR⟩ : ∃ r, FiS.evalE A (.mk kd at0 vl fs ls an ps) = r := ⟨_, rfl⟩
 rw [hR] at HEV ⊢
 clear hR
 have HTK := hZ9 (fun acc j (hj : j < ps.length) => FiS.accE_take (A := A) (acc := acc) hj)
 have HSTOP := hZ9 (fun k acc j (hj : j < ps.length) h => FiS.evalG_stop A k acc ps j hj h)
 have HALLG := hZ9 (fun k acc h => @FiS.evalG_all A k acc ps h)
 have HTA : Hid (ps.take ps.length = ps) := hZ9 (List.take_length)
 obtain ⟨AL, hAL⟩ : ∃ m, an.length = m := ⟨_, rfl⟩
 obtain ⟨PL, hPL⟩ : ∃ m, ps.length = m := ⟨_, rfl⟩
 have HAL := hZ9 hAL
 have HPL := hZ9 hPL
 rw [hAL] at hss
 rw [hPL] at hc6 hps
 try rw [hAL]
 try rw [hPL]
 have hlf0 : ∀ W, FiIn n W (.agg #[.int .i64 kd, .string ⟨at0.toArray⟩, .string ⟨vl.toArray⟩, .string ⟨fs.toArray⟩, .string ⟨ls.toArray⟩, .slice a5 AL c5, .slice a6 PL c6]) (.mk kd at0 vl fs ls an ps) -> AttrsIn W u A -> Env W -> Calls Tryz.prog 38 #[.agg #[.int .i64 kd, .string ⟨at0.toArray⟩, .string ⟨vl.toArray⟩, .string ⟨fs.toArray⟩, .string ⟨ls.toArray⟩, .slice a5 AL c5, .slice a6 PL c6], u] W (IntR (FiS.leafE A kd at0 vl fs ls an) W) := fun W h hA hE => by
  have := hlf W (by rw [<- hAL, <- hPL] at h; exact h) hA hE
  rw [<- hAL, <- hPL]
  exact this
 rw [hPL] at HTA hpl
 have HH : Hid (FiIn n w (.agg #[.int .i64 kd, .string ⟨at0.toArray⟩, .string ⟨vl.toArray⟩, .string ⟨fs.toArray⟩, .string ⟨ls.toArray⟩, .slice a5 AL c5, .slice a6 PL c6]) (.mk kd at0 vl fs ls an ps)) := hZ9 (by rw [<- hAL, <- hPL]; exact h)
 have hg0 := grow1 w (.cells #[.int .i64 kd, .string ⟨at0.toArray⟩, .string ⟨vl.toArray⟩, .string ⟨fs.toArray⟩, .string ⟨ls.toArray⟩, .slice a5 AL c5, .slice a6 PL c6] 33)
 have hw0 := Whole.made w 33 #[.int .i64 kd, .string ⟨at0.toArray⟩, .string ⟨vl.toArray⟩, .string ⟨fs.toArray⟩, .string ⟨ls.toArray⟩, .slice a5 AL c5, .slice a6 PL c6]
 have HAT := hZ9 (fun j (hj : j < ps.length) => FisP.at hps j hj)
 obtain ⟨q0, q1, q2, q3, q4, q5, q6⟩ := hw0.seven
 have hA0 := AttrsP.call hA hg0
 have hE0 := hE.below hg0
 unfold IntR at *
 clear hlf h hss hps
 by_cases hk0 : kd = 0
 · subst hk0
   have HR : Hid (R = FiS.evalG A 0 1 ps) := hZ9 (by rw [HEV.out, if_pos (by decide)]; rfl)
   clear HEV hlf0 HH hbare hA0 hE0
   go_enter Tryz.func25, Tryz.ntmps25
   go_wp2_with fail
   clear q0 q1 q2 q3 q4 q5 q6
   go_loopw [5, 21] (fun r i wr => ∃ (j : Nat) (acc : Int), j <= PL /\ i = .int .i64 j /\ r = .int .i64 acc /\ Hid (acc = FiS.accE A 1 (ps.take j) /\ ∀ t (ht : t < ps.length), t < j -> FiS.evalE A (ps[t]'ht) ≠ 0) /\ Whole wr w.heap.size 33 #[.int .i64 0, .string ⟨at0.toArray⟩, .string ⟨vl.toArray⟩, .string ⟨fs.toArray⟩, .string ⟨ls.toArray⟩, .slice a5 AL c5, .slice a6 PL c6] /\ Below w.heap.size w wr) (fun _ i _ => PL - (intOf i).toNat)
   case atStart => exact ⟨0, _, Nat.zero_le _, rfl, rfl, hZ9 ⟨rfl, fun t ht h => absurd h (Nat.not_lt_zero _)⟩, hw0, hg0⟩
   case round =>
    obtain ⟨j, acc, hj, rfl, rfl, HACC, hw, hb⟩ := hrel
    clear hw0 hg0
    by_cases hlt : j < PL
    · have hlt2 : j < ps.length := by rw [HPL.out]; exact hlt
      have hwp := HWD.out j hlt2
      have hap := HAL2.out j hlt2
      have h3 := FiS.evalE_three A (ps[j]'hlt2)
      have HS : Hid (FiS.evalE A (ps[j]'hlt2) = 0 -> R = 0) := hZ9 (fun h => by rw [HR.out]; exact HSTOP.out 0 _ j hlt2 h)
      have HN : Hid (FiS.evalE A (ps[j]'hlt2) ≠ 0 -> (if FiS.evalE A (ps[j]'hlt2) = -1 then -1 else acc) = FiS.accE A 1 (ps.take (j + 1)) /\ ∀ t (ht : t < ps.length), t < j + 1 -> FiS.evalE A (ps[t]'ht) ≠ 0) := hZ9 (fun h => ⟨by rw [HTK.out _ j hlt2, <- HACC.out.1], fun t ht htj => by
       rcases Nat.lt_or_eq_of_le (Nat.le_of_lt_succ htj) with h2 | rfl
       · exact HACC.out.2 t ht h2
       · exact h⟩)
      obtain ⟨d, rfl, g, o, rfl, hg, b5, d5, b6, d6, hin, y0, y1, y2, y3, y4, y5, y6⟩ := HAT.out j hlt2
      have hin := hin.call hb
      have y0 := (hb.cell (p := ⟨g, o + j * 7, none⟩) hg).trans y0
      have y1 := (hb.cell (p := ⟨g, o + j * 7 + 1, none⟩) hg).trans y1
      have y2 := (hb.cell (p := ⟨g, o + j * 7 + 2, none⟩) hg).trans y2
      have y3 := (hb.cell (p := ⟨g, o + j * 7 + 3, none⟩) hg).trans y3
      have y4 := (hb.cell (p := ⟨g, o + j * 7 + 4, none⟩) hg).trans y4
      have y5 := (hb.cell (p := ⟨g, o + j * 7 + 5, none⟩) hg).trans y5
      have y6 := (hb.cell (p := ⟨g, o + j * 7 + 6, none⟩) hg).trans y6
      have hrec := fun v W h hA hE => IH d rfl (ps[j]'hlt2) v u W h hwp hap hA hf hE
      clear IH HAT HTK HSTOP HALLG HWD HAL2 HACC HTA
      generalize ps[j] = p at *
      generalize p.any.length = PA at *
      generalize p.parts.length = PP at *
      obtain ⟨E, hEe⟩ : ∃ e, FiS.evalE A p = e := ⟨_, rfl⟩
      rw [hEe] at HS HN h3 hrec
      clear hEe
      have hl0 : (0 : Int) <= (j : Int) := by omega
      have hl1 : (j : Int) < (PL : Int) := by omega
      have hgX := grow1 wr (.cells #[.int .i64 p.kind, .string ⟨p.attr.toArray⟩, .string ⟨p.value.toArray⟩, .string ⟨p.first.toArray⟩, .string ⟨p.last.toArray⟩, .slice b5 PA d5, .slice b6 PP d6] 33)
      have hwX := Whole.made wr 33 #[.int .i64 p.kind, .string ⟨p.attr.toArray⟩, .string ⟨p.value.toArray⟩, .string ⟨p.first.toArray⟩, .string ⟨p.last.toArray⟩, .slice b5 PA d5, .slice b6 PP d6]
      obtain ⟨x0, x1, x2, x3, x4, x5, x6⟩ := hwX.seven
      have hbX := hb.trans (hgX.mono hb.size)
      have hwb := hw.call hgX
      have hc := hrec _ _ (hin.call hgX) (AttrsP.call hA hbX) (hE.below hbX)
      clear hrec hin hwX hgX hw hb
      go_wp2_with fail
      refine hc.mono ?_; rintro e w2 ⟨rfl, hb2⟩
      have hz2 := hbX.trans (hb2.mono hbX.size)
      have hw2 := hwb.call hb2
      clear hc x0 x1 x2 x3 x4 x5 x6 hwb hb2 hbX
      obtain ⟨q0, q1, q2, q3, q4, q5, q6⟩ := hw2.seven
      rcases h3 with rfl | rfl | rfl
      · have hn := HN.out (by decide)
        have HA2 : Hid ((-1 : Int) = FiS.accE A 1 (ps.take (j + 1)) /\ ∀ t (ht : t < ps.length), t < j + 1 -> FiS.evalE A (ps[t]'ht) ≠ 0) := hZ9 ⟨by rw [<- hn.1]; rfl, hn.2⟩
        clear HS HN hn
        go_wp2_with fail
        clear q0 q1 q2 q3 q4 q5 q6
        go_roundw
        case rel => exact ⟨j + 1, _, by omega, by go_num, rfl, HA2, hw2, hz2⟩
        case measure => simp [intOf]; omega
      · have HRR := hZ9 (HS.out rfl)
        clear HS HN
        go_wp2_with fail
        go_ret
        exact ⟨by (rw [HRR.out]) <;> rfl, hz2⟩
      · have hn := HN.out (by decide)
        have HA2 : Hid (acc = FiS.accE A 1 (ps.take (j + 1)) /\ ∀ t (ht : t < ps.length), t < j + 1 -> FiS.evalE A (ps[t]'ht) ≠ 0) := hZ9 ⟨by rw [<- hn.1]; rfl, hn.2⟩
        clear HS HN hn
        go_wp2_with fail
        clear q0 q1 q2 q3 q4 q5 q6
        go_roundw
        case rel => exact ⟨j + 1, _, by omega, by go_num, rfl, HA2, hw2, hz2⟩
        case measure => simp [intOf]; omega
    · have hjl : j = PL := by omega
      have HRR : Hid (R = acc) := hZ9 (by
       rw [HR.out, HALLG.out 0 1 (fun t ht => HACC.out.2 t ht (by rw [HPL.out] at ht; omega)), HACC.out.1, hjl, HTA.out])
      subst hjl
      clear IH HAT HTK HSTOP HALLG HWD HAL2 HACC HTA
      go_wp2_with fail
      go_ret
      exact ⟨by (rw [HRR.out]) <;> rfl, hb⟩
 by_cases hk1 : kd = 1
 · subst hk1
   have HR : Hid (R = FiS.evalG A 1 0 ps) := hZ9 (by rw [HEV.out, if_pos (by decide)]; rfl)
   clear HEV hlf0 HH hbare hA0 hE0
   go_enter Tryz.func25, Tryz.ntmps25
   go_wp2_with fail
   clear q0 q1 q2 q3 q4 q5 q6
   go_loopw [5, 21] (fun r i wr => ∃ (j : Nat) (acc : Int), j <= PL /\ i = .int .i64 j /\ r = .int .i64 acc /\ Hid (acc = FiS.accE A 0 (ps.take j) /\ ∀ t (ht : t < ps.length), t < j -> FiS.evalE A (ps[t]'ht) ≠ 1) /\ Whole wr w.heap.size 33 #[.int .i64 1, .string ⟨at0.toArray⟩, .string ⟨vl.toArray⟩, .string ⟨fs.toArray⟩, .string ⟨ls.toArray⟩, .slice a5 AL c5, .slice a6 PL c6] /\ Below w.heap.size w wr) (fun _ i _ => PL - (intOf i).toNat)
   case atStart => exact ⟨0, _, Nat.zero_le _, rfl, rfl, hZ9 ⟨rfl, fun t ht h => absurd h (Nat.not_lt_zero _)⟩, hw0, hg0⟩
   case round =>
    obtain ⟨j, acc, hj, rfl, rfl, HACC, hw, hb⟩ := hrel
    clear hw0 hg0
    by_cases hlt : j < PL
    · have hlt2 : j < ps.length := by rw [HPL.out]; exact hlt
      have hwp := HWD.out j hlt2
      have hap := HAL2.out j hlt2
      have h3 := FiS.evalE_three A (ps[j]'hlt2)
      have HS : Hid (FiS.evalE A (ps[j]'hlt2) = 1 -> R = 1) := hZ9 (fun h => by rw [HR.out]; exact HSTOP.out 1 _ j hlt2 h)
      have HN : Hid (FiS.evalE A (ps[j]'hlt2) ≠ 1 -> (if FiS.evalE A (ps[j]'hlt2) = -1 then -1 else acc) = FiS.accE A 0 (ps.take (j + 1)) /\ ∀ t (ht : t < ps.length), t < j + 1 -> FiS.evalE A (ps[t]'ht) ≠ 1) := hZ9 (fun h => ⟨by rw [HTK.out _ j hlt2, <- HACC.out.1], fun t ht htj => by
       rcases Nat.lt_or_eq_of_le (Nat.le_of_lt_succ htj) with h2 | rfl
       · exact HACC.out.2 t ht h2
       · exact h⟩)
      obtain ⟨d, rfl, g, o, rfl, hg, b5, d5, b6, d6, hin, y0, y1, y2, y3, y4, y5, y6⟩ := HAT.out j hlt2
      have hin := hin.call hb
      have y0 := (hb.cell (p := ⟨g, o + j * 7, none⟩) hg).trans y0
      have y1 := (hb.cell (p := ⟨g, o + j * 7 + 1, none⟩) hg).trans y1
      have y2 := (hb.cell (p := ⟨g, o + j * 7 + 2, none⟩) hg).trans y2
      have y3 := (hb.cell (p := ⟨g, o + j * 7 + 3, none⟩) hg).trans y3
      have y4 := (hb.cell (p := ⟨g, o + j * 7 + 4, none⟩) hg).trans y4
      have y5 := (hb.cell (p := ⟨g, o + j * 7 + 5, none⟩) hg).trans y5
      have y6 := (hb.cell (p := ⟨g, o + j * 7 + 6, none⟩) hg).trans y6
      have hrec := fun v W h hA hE => IH d rfl (ps[j]'hlt2) v u W h hwp hap hA hf hE
      clear IH HAT HTK HSTOP HALLG HWD HAL2 HACC HTA
      generalize ps[j] = p at *
      generalize p.any.length = PA at *
      generalize p.parts.length = PP at *
      obtain ⟨E, hEe⟩ : ∃ e, FiS.evalE A p = e := ⟨_, rfl⟩
      rw [hEe] at HS HN h3 hrec
      clear hEe
      have hl0 : (0 : Int) <= (j : Int) := by omega
      have hl1 : (j : Int) < (PL : Int) := by omega
      have hgX := grow1 wr (.cells #[.int .i64 p.kind, .string ⟨p.attr.toArray⟩, .string ⟨p.value.toArray⟩, .string ⟨p.first.toArray⟩, .string ⟨p.last.toArray⟩, .slice b5 PA d5, .slice b6 PP d6] 33)
      have hwX := Whole.made wr 33 #[.int .i64 p.kind, .string ⟨p.attr.toArray⟩, .string ⟨p.value.toArray⟩, .string ⟨p.first.toArray⟩, .string ⟨p.last.toArray⟩, .slice b5 PA d5, .slice b6 PP d6]
      obtain ⟨x0, x1, x2, x3, x4, x5, x6⟩ := hwX.seven
      have hbX := hb.trans (hgX.mono hb.size)
      have hwb := hw.call hgX
      have hc := hrec _ _ (hin.call hgX) (AttrsP.call hA hbX) (hE.below hbX)
      clear hrec hin hwX hgX hw hb
      go_wp2_with fail
      refine hc.mono ?_; rintro e w2 ⟨rfl, hb2⟩
      have hz2 := hbX.trans (hb2.mono hbX.size)
      have hw2 := hwb.call hb2
      clear hc x0 x1 x2 x3 x4 x5 x6 hwb hb2 hbX
      obtain ⟨q0, q1, q2, q3, q4, q5, q6⟩ := hw2.seven
      rcases h3 with rfl | rfl | rfl
      · have hn := HN.out (by decide)
        have HA2 : Hid ((-1 : Int) = FiS.accE A 0 (ps.take (j + 1)) /\ ∀ t (ht : t < ps.length), t < j + 1 -> FiS.evalE A (ps[t]'ht) ≠ 1) := hZ9 ⟨by rw [<- hn.1]; rfl, hn.2⟩
        clear HS HN hn
        go_wp2_with fail
        clear q0 q1 q2 q3 q4 q5 q6
        go_roundw
        case rel => exact ⟨j + 1, _, by omega, by go_num, rfl, HA2, hw2, hz2⟩
        case measure => simp [intOf]; omega
      · have hn := HN.out (by decide)
        have HA2 : Hid (acc = FiS.accE A 0 (ps.take (j + 1)) /\ ∀ t (ht : t < ps.length), t < j + 1 -> FiS.evalE A (ps[t]'ht) ≠ 1) := hZ9 ⟨by rw [<- hn.1]; rfl, hn.2⟩
        clear HS HN hn
        go_wp2_with fail
        clear q0 q1 q2 q3 q4 q5 q6
        go_roundw
        case rel => exact ⟨j + 1, _, by omega, by go_num, rfl, HA2, hw2, hz2⟩
        case measure => simp [intOf]; omega
      · have HRR := hZ9 (HS.out rfl)
        clear HS HN
        go_wp2_with fail
        go_ret
        exact ⟨by (rw [HRR.out]) <;> rfl, hz2⟩
    · have hjl : j = PL := by omega
      have HRR : Hid (R = acc) := hZ9 (by
       rw [HR.out, HALLG.out 1 0 (fun t ht => HACC.out.2 t ht (by rw [HPL.out] at ht; omega)), HACC.out.1, hjl, HTA.out])
      subst hjl
      clear IH HAT HTK HSTOP HALLG HWD HAL2 HACC HTA
      go_wp2_with fail
      go_ret
      exact ⟨by (rw [HRR.out]) <;> rfl, hb⟩
 have k0 : (kd == 0) = false := by simpa using hk0
 have k1 : (kd == 1) = false := by simpa using hk1
 clear HTK HSTOP HALLG HTA
 by_cases hk2 : kd = 2
 · subst hk2
   have hone : ps.length = 1 := FiS.not_one hbare
   have hPL1 : PL = 1 := by rw [<- HPL.out]; exact hone
   subst hPL1
   have hlt2 : 0 < ps.length := by omega
   have HR : Hid (R = FiS.notE (FiS.evalE A (ps[0]'hlt2))) := hZ9 (by
    rw [HEV.out, if_neg (by decide), if_pos rfl]
    match ps, hlt2 with
    | p :: r, _ => rfl)
   have hwp := HWD.out 0 hlt2
   have hap := HAL2.out 0 hlt2
   have h3 := FiS.evalE_three A (ps[0]'hlt2)
   obtain ⟨d, rfl, g, o, rfl, hg, b5, d5, b6, d6, hin, y0, y1, y2, y3, y4, y5, y6⟩ := HAT.out 0 hlt2
   have hin := hin.call hg0
   simp only [Nat.zero_mul, Nat.add_zero] at y0 y1 y2 y3 y4 y5 y6
   have y0 := (hg0.cell (p := ⟨g, o, none⟩) hg).trans y0
   have y1 := (hg0.cell (p := ⟨g, o + 1, none⟩) hg).trans y1
   have y2 := (hg0.cell (p := ⟨g, o + 2, none⟩) hg).trans y2
   have y3 := (hg0.cell (p := ⟨g, o + 3, none⟩) hg).trans y3
   have y4 := (hg0.cell (p := ⟨g, o + 4, none⟩) hg).trans y4
   have y5 := (hg0.cell (p := ⟨g, o + 5, none⟩) hg).trans y5
   have y6 := (hg0.cell (p := ⟨g, o + 6, none⟩) hg).trans y6
   have hrec := fun v W h hA hE => IH d rfl (ps[0]'hlt2) v u W h hwp hap hA hf hE
   clear IH HAT HWD HAL2 HEV hlf0 HH hbare
   generalize ps[0] = p at *
   generalize p.any.length = PA at *
   generalize p.parts.length = PP at *
   obtain ⟨E, hEe⟩ : ∃ e, FiS.evalE A p = e := ⟨_, rfl⟩
   rw [hEe] at HR h3 hrec
   clear hEe
   have hc := hrec _ _ hin hA0 hE0
   have htr := fun b w => fltruth_c b w
   clear hrec hin
   go_enter Tryz.func25, Tryz.ntmps25
   go_wp2_with fail
   refine hc.mono ?_; rintro e w2 ⟨rfl, hb2⟩
   have hz2 := hg0.trans (hb2.mono hg0.size)
   clear hc q0 q1 q2 q3 q4 q5 q6 y0 y1 y2 y3 y4 y5 y6 hb2
   rcases h3 with rfl | rfl | rfl
   · have HRR : Hid (R = -1) := HR
     clear HR htr
     go_wp2_with fail
     go_ret
     exact ⟨by (rw [HRR.out]) <;> rfl, hz2⟩
   · have HRR : Hid (R = 1) := HR
     clear HR
     go_wp2_with fail
     refine (htr _ _).mono ?_; rintro e w3 ⟨rfl, rfl⟩
     go_wp2_with fail
     go_ret
     exact ⟨by (rw [HRR.out]) <;> rfl, hz2⟩
   · have HRR : Hid (R = 0) := HR
     clear HR
     go_wp2_with fail
     refine (htr _ _).mono ?_; rintro e w3 ⟨rfl, rfl⟩
     go_wp2_with fail
     go_ret
     exact ⟨by (rw [HRR.out]) <;> rfl, hz2⟩
 have k2 : (kd == 2) = false := by simpa using hk2
 have HR : Hid (R = FiS.leafE A kd at0 vl fs ls an) := hZ9 (by rw [HEV.out, if_neg (by omega), if_neg hk2])
 have hc := hlf0 _ (HH.out.call hg0) hA0 hE0
 clear HEV hlf0 IH HAT HWD HAL2 hbare hk0 hk1 hk2 HH
 obtain ⟨LE, hLE⟩ : ∃ r, FiS.leafE A kd at0 vl fs ls an = r := ⟨_, rfl⟩
 rw [hLE] at hc HR
 clear hLE
 go_enter Tryz.func25, Tryz.ntmps25
 go_wp2_with fail
 refine hc.mono ?_; rintro e w2 ⟨rfl, hb2⟩
 have hz2 := hg0.trans (hb2.mono hg0.size)
 clear hc q0 q1 q2 q3 q4 q5 q6 hb2
 go_wp2_with fail
 go_ret
 exact ⟨by (rw [HR.out]) <;> rfl, hz2⟩)
theorem flEval_c (n : Nat) (x : Fi) (v u : Value) (A : List EnS.At) (w : World) (h : FiIn n w v x) (hwd : FiS.wdF 20000 x) (hA : AttrsIn w u A) (hf : FitT A) (hE : Env w) : Calls Tryz.prog 10 #[v, u] w (IntR (FiS.evalS A x) w) := by
 have hfm := fun W h => flFormed_c n x v W h hwd
 have hev := fun W ha h hA hE => flev_c A n x v u W h hwd ha hA hf hE
 have HES : Hid (FiS.evalS A x = if FiS.formedS x = true then FiS.evalE A x else -1) := hZ9 rfl
 have HFA : Hid (FiS.formedS x = true -> FiS.allS x = true) := hZ9 (fun h => by unfold FiS.formedS at h; simp only [Bool.and_eq_true] at h; exact h.2.2)
 obtain ⟨R, hR⟩ : ∃ r, FiS.evalS A x = r := ⟨_, rfl⟩
 obtain ⟨E, hEe⟩ : ∃ r, FiS.evalE A x = r := ⟨_, rfl⟩
 rw [hR] at HES ⊢
 rw [hEe] at HES hev
 clear hR hEe
 unfold BoolR IntR at *
 have HH := hZ9 h
 obtain ⟨a5, c5, a6, c6, hv, _, _, _⟩ := FiV.parts h
 generalize x.any.length = AL at *
 generalize x.parts.length = PL at *
 generalize x.kind = kd at *
 generalize x.attr = at0 at *
 generalize x.value = vl at *
 generalize x.first = fs at *
 generalize x.last = ls at *
 subst hv
 have hg0 := grow1 w (.cells #[.int .i64 kd, .string ⟨at0.toArray⟩, .string ⟨vl.toArray⟩, .string ⟨fs.toArray⟩, .string ⟨ls.toArray⟩, .slice a5 AL c5, .slice a6 PL c6] 33)
 have hw0 := Whole.made w 33 #[.int .i64 kd, .string ⟨at0.toArray⟩, .string ⟨vl.toArray⟩, .string ⟨fs.toArray⟩, .string ⟨ls.toArray⟩, .slice a5 AL c5, .slice a6 PL c6]
 obtain ⟨q0, q1, q2, q3, q4, q5, q6⟩ := hw0.seven
 have hfm1 := hfm _ (h.call hg0)
 clear hfm h
 cases hfd : FiS.formedS x with
 | false =>
  rw [hfd] at hfm1
  have HRR : Hid (R = -1) := hZ9 (by rw [HES.out, hfd]; rfl)
  clear hfd HES HFA hev HH
  go_enter Tryz.func10, Tryz.ntmps10
  go_wp2_with fail
  refine hfm1.mono ?_; rintro e w2 ⟨rfl, hb2⟩
  have hz2 := hg0.trans (hb2.mono hg0.size)
  clear hfm1
  go_wp2_with fail
  go_ret
  exact ⟨by (rw [HRR.out]) <;> rfl, hz2⟩
 | true =>
  rw [hfd] at hfm1
  have HRR : Hid (R = E) := hZ9 (by rw [HES.out, hfd]; rfl)
  have hev2 := fun W h hA hE => hev W (HFA.out hfd) h hA hE
  clear hfd HES HFA hev
  go_enter Tryz.func10, Tryz.ntmps10
  go_wp2_with fail
  refine hfm1.mono ?_; rintro e w2 ⟨rfl, hb2⟩
  have hz2 := hg0.trans (hb2.mono hg0.size)
  have hw2 := hw0.call hb2
  clear hfm1 q0 q1 q2 q3 q4 q5 q6 hw0
  obtain ⟨q0, q1, q2, q3, q4, q5, q6⟩ := hw2.seven
  have hc := hev2 _ (HH.out.call hz2) (AttrsP.call hA hz2) (hE.below hz2)
  clear hev2 HH
  go_wp2_with fail
  refine hc.mono ?_; rintro e w3 ⟨rfl, hb3⟩
  have hz3 := hz2.trans (hb3.mono hz2.size)
  clear hc q0 q1 q2 q3 q4 q5 q6
  go_wp2_with fail
  go_ret
  exact ⟨by (rw [HRR.out]) <;> rfl, hz3⟩
end
end Go.Proofs.YtjmfknfponjgkaaGreatDoor
