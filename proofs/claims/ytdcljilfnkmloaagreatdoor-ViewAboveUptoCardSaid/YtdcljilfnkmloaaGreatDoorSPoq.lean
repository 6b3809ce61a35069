/- The walk of deciding by rules, the program's. Conditions: each rule's texts and the asked texts have at most 100000 bytes, the list at most 1000000 rules; the library's variables are laid. -/
import Derived.Deep.DeepCutAuto
import Derived.Test.YtdcljilfnkmloaaGreatDoorSPom
namespace Go.Proofs.YtdcljilfnkmloaaGreatDoor
open Go.RowKit
set_option maxRecDepth 100000 in
set_option maxHeartbeats 16000000 in
theorem polDecide_c (v : Value) (xs : List PoS.Rl) (subject name attr : List UInt8) (right : Int) (w : World) (h : RulesIn w v xs) (hs : ∀ r ∈ xs, SmallR r) (hl : xs.length ≤ 1000000)
    (q1 : subject.length ≤ 100000) (q2 : name.length ≤ 100000) (q3 : attr.length ≤ 100000) (hE : Env w) :
    Calls Tryz.prog 106 #[v, .string ⟨subject.toArray⟩, .int .i64 right, .string ⟨name.toArray⟩, .string ⟨attr.toArray⟩] w (NmBool (PoS.decideS xs subject right name attr) w) := by
  have h1 := fun w hE => dnnormal_c subject (by omega) w hE
  have h2 := fun w hE => dnnormal_c name (by omega) w hE
  have h3 : ∀ w, Calls Tryz.prog 23 #[.string ⟨attr.toArray⟩] w (TypeRet attr w) := fun w => type_c ⟨attr.toArray⟩ (by show attr.toArray.size ≤ _; simp; omega) w
  have h4 := fun w h hE => polFormed_c v xs w h hs hl hE
  unfold NmTxt at h1 h2
  unfold TypeRet at h3
  unfold NmBool at h4
  have HB := Lib.hid (fun s n t e1 e2 y => PoS.decide_g (l := xs) (subject := subject) (name := name) (attr := attr) (right := right) (s := s) (n := n) (t := t) (e1 := e1) (e2 := e2) (y := y))
  have hsl := DnS.norm_len subject
  have hnl := DnS.norm_len name
  generalize PoS.decideS xs subject right name attr = R at *
  obtain ⟨N1, hN1⟩ : ∃ N, DnS.normN subject = N := ⟨_, rfl⟩
  obtain ⟨s, e1⟩ := N1
  obtain ⟨N2, hN2⟩ : ∃ N, DnS.normN name = N := ⟨_, rfl⟩
  obtain ⟨n, e2⟩ := N2
  obtain ⟨T, hT⟩ : ∃ T, RuS.typeOf attr = T := ⟨_, rfl⟩
  obtain ⟨t, sy⟩ := T
  rw [hN1] at h1 hsl
  rw [hN2] at h2 hnl
  rw [hT] at h3
  simp only at h1 h2 h3 hsl hnl
  replace HB := Lib.hid (HB.out s n t e1 e2 sy hN1 hN2 hT)
  clear hN1 hN2 hT
  have HRI := Lib.hid h
  obtain ⟨a, c, rfl, hc, hat⟩ := h.at
  have HAT := Lib.hid hat
  have HS := Lib.hid (fun k (h : k < xs.length) => hs xs[k] (List.getElem_mem h))
  have HW := Lib.hid (fun (hf : PoS.formedL xs = true) k (h : k < xs.length) => PoS.formed_who hf h)
  have HFA := Lib.hid (fun k (h : k < xs.length) => PoS.first_at (s := s) (n := n) (t := t) (right := right) h)
  have HFN := Lib.hid (PoS.first_none (s := s) (n := n) (t := t) (right := right) (l := xs))
  have HNS := Lib.hid (fun k (h : k < xs.length) => PoS.none_step (s := s) (n := n) (t := t) (right := right) h)
  clear hat hs h
  obtain ⟨fd, hfd⟩ : ∃ fd, PoS.formedL xs = fd := ⟨_, rfl⟩
  rw [hfd] at h4 HB HW
  clear hfd
  generalize hnn : xs.length = m at hc hl h4 ⊢
  have HN := Lib.hid hnn
  clear hnn
  go_enter Tryz.func106, Tryz.ntmps106
  go_wp2_with fail
  refine (h1 _ hE).mono ?_; rintro e w1 ⟨rfl, hb1⟩
  have hE1 := hE.below hb1
  go_wp2_with fail
  refine (h2 _ hE1).mono ?_; rintro e w2 ⟨rfl, hb2⟩
  have hE2 := hE1.below hb2
  go_wp2_with fail
  refine (h3 _).mono ?_; rintro e w3 ⟨rfl, hb3⟩
  have hE3 := hE2.below hb3
  have hbz := below_trans (below_trans hb1 hb2) hb3
  have hri := HRI.out.call hbz (Nat.le_refl _)
  rw [HN.out] at hri
  go_upto_region 4 with fail
  go_cut [66] (fun b wx => b = .bool (!(PoS.goodD e1 e2 attr t (PoS.oneS right) fd)) ∧ Below w.heap.size w wx)
  case first =>
    by_cases z1 : e1 = 0
    · subst z1
      by_cases z2 : e2 = 0
      · subst z2
        by_cases z3 : attr.isEmpty = false ∧ t.isEmpty = true
        · have HZ := Lib.hid (fun o d => PoS.good_at (e1 := 0) (e2 := 0) o d z3)
          obtain ⟨z3a, z3b⟩ := z3
          go_wp2_with fail
          go_meet
          exact ⟨meet_t (HZ.out _ _), hbz⟩
        · have hac := empty_cases z3
          have HAC := Lib.hid hac
          clear z3
          by_cases z4 : right < 0
          · have z4d : decide (right < 0) = true := decide_eq_true z4
            have ho : PoS.oneS right = false := by unfold PoS.oneS; simp; omega
            rcases hac with za | ⟨za, zt⟩
            · go_wp2_with fail
              go_meet
              exact ⟨meet_t (by rw [ho]; exact PoS.good_o _ _ _ _ _), hbz⟩
            · go_wp2_with fail
              go_meet
              exact ⟨meet_t (by rw [ho]; exact PoS.good_o _ _ _ _ _), hbz⟩
          · have z4d : decide (right < 0) = false := decide_eq_false z4
            by_cases z5 : 63 < right
            · have z5d : decide (63 < right) = true := decide_eq_true z5
              have ho : PoS.oneS right = false := by unfold PoS.oneS; simp; omega
              rcases hac with za | ⟨za, zt⟩
              · go_wp2_with fail
                go_meet
                exact ⟨meet_t (by rw [ho]; exact PoS.good_o _ _ _ _ _), hbz⟩
              · go_wp2_with fail
                go_meet
                exact ⟨meet_t (by rw [ho]; exact PoS.good_o _ _ _ _ _), hbz⟩
            · have z5d : decide (63 < right) = false := decide_eq_false z5
              obtain ⟨x, rfl⟩ : ∃ x : Nat, right = (x : Int) := ⟨right.toNat, by omega⟩
              have hx : x < 64 := by omega
              have hones := fun w => onesT_c x hx w
              have ho1 := PoS.ones_one x hx
              generalize PoS.onesN x = y at *
              cases ho : PoS.oneS (x : Int) with
              | false =>
                have hy : (y != 1) = true := by rw [ho] at ho1; simp [bne, ho1]
                rcases hac with za | ⟨za, zt⟩
                · go_wp2_with fail
                  refine (hones _).mono ?_; rintro e w4 ⟨rfl, rfl⟩
                  go_wp2_with fail
                  go_meet
                  exact ⟨meet_t (by rw [ho]; exact PoS.good_o _ _ _ _ _), hbz⟩
                · go_wp2_with fail
                  refine (hones _).mono ?_; rintro e w4 ⟨rfl, rfl⟩
                  go_wp2_with fail
                  go_meet
                  exact ⟨meet_t (by rw [ho]; exact PoS.good_o _ _ _ _ _), hbz⟩
              | true =>
                have hy : (y != 1) = false := by rw [ho] at ho1; simp [bne, ho1]
                cases fd with
                | false =>
                  rcases hac with za | ⟨za, zt⟩
                  · go_wp2_with fail
                    refine (hones _).mono ?_; rintro e w4 ⟨rfl, rfl⟩
                    go_wp2_with fail
                    refine (h4 _ hri hE3).mono ?_; rintro e w4 ⟨rfl, hb4⟩
                    have hbz4 := below_trans hbz hb4
                    have hE4 := hE3.below hb4
                    go_wp2_with fail
                    go_meet
                    exact ⟨meet_t (PoS.good_fd _ _ _ _ _), hbz4⟩
                  · go_wp2_with fail
                    refine (hones _).mono ?_; rintro e w4 ⟨rfl, rfl⟩
                    go_wp2_with fail
                    refine (h4 _ hri hE3).mono ?_; rintro e w4 ⟨rfl, hb4⟩
                    have hbz4 := below_trans hbz hb4
                    have hE4 := hE3.below hb4
                    go_wp2_with fail
                    go_meet
                    exact ⟨meet_t (PoS.good_fd _ _ _ _ _), hbz4⟩
                | true =>
                  rcases hac with za | ⟨za, zt⟩
                  · go_wp2_with fail
                    refine (hones _).mono ?_; rintro e w4 ⟨rfl, rfl⟩
                    go_wp2_with fail
                    refine (h4 _ hri hE3).mono ?_; rintro e w4 ⟨rfl, hb4⟩
                    have hbz4 := below_trans hbz hb4
                    have hE4 := hE3.below hb4
                    go_wp2_with fail
                    go_meet
                    exact ⟨meet_f (by rw [ho]; exact PoS.good_all HAC.out), hbz4⟩
                  · go_wp2_with fail
                    refine (hones _).mono ?_; rintro e w4 ⟨rfl, rfl⟩
                    go_wp2_with fail
                    refine (h4 _ hri hE3).mono ?_; rintro e w4 ⟨rfl, hb4⟩
                    have hbz4 := below_trans hbz hb4
                    have hE4 := hE3.below hb4
                    go_wp2_with fail
                    go_meet
                    exact ⟨meet_f (by rw [ho]; exact PoS.good_all HAC.out), hbz4⟩
      · have z2n : (e2 != 0) = true := by simpa using z2
        go_wp2_with fail
        go_meet
        exact ⟨meet_t (PoS.good_e2 _ _ _ _ z2), hbz⟩
    · have z1n : (e1 != 0) = true := by simpa using z1
      go_wp2_with fail
      go_meet
      exact ⟨meet_t (PoS.good_e1 _ _ _ _ z1), hbz⟩
  case rest =>
    obtain ⟨rfl, hbz4⟩ := hcut
    cases hG : (PoS.goodD e1 e2 attr t (PoS.oneS right) fd) with
    | false =>
      have HR : Hid (R = false) := Lib.hid (by rw [HB.out, hG]; rfl)
      go_wp2_with fail
      go_ret
      exact ⟨by rw [HR.out]; rfl, hbz4⟩
    | true =>
      have HIN : Hid (R = PoS.firstS s n t right xs) := Lib.hid (by rw [HB.out, hG]; rfl)
      obtain rfl : fd = true := PoS.good_has hG
      clear hG
      go_wp2_with fail
      go_loopw [69] (fun i wr => ∃ k : Nat, k ≤ m ∧ i = .int .i64 k ∧ Hid (∀ r ∈ xs.take k, PoS.fitsR s n t right r = false) ∧ Below w.heap.size w wr) (fun i _ => m - (intOf i).toNat)
      case atStart => exact ⟨0, Nat.zero_le _, rfl, Lib.hid (by simp), hbz4⟩
      case round =>
        obtain ⟨k, hk, rfl, HA, hb⟩ := hrel
        by_cases hlt : k < m
        · have hlt2 : k < xs.length := by rw [HN.out]; exact hlt
          obtain ⟨g, o, rfl, hg, hra⟩ := HAT.out k hlt2
          have hrc := hra.call hb hg
          have hsm := HS.out k hlt2
          have hwho := HW.out (by trivial) k hlt2
          have HFAK := Lib.hid (fun h => HFA.out k hlt2 HA.out h)
          have HNSK := Lib.hid (fun h => HNS.out k hlt2 HA.out h)
          clear hra
          generalize xs[k] = r at hrc hsm hwho HFAK HNSK
          clear hlt2
          obtain ⟨who, target, ra, rights, allow⟩ := r
          obtain ⟨c0, c1, c2, c3, c4⟩ := hrc
          unfold strV at c0 c1 c2
          simp only at c0 c1 c2 c3 c4 hwho HFAK
          obtain ⟨p1, p2, p3⟩ := hsm
          simp only at p1 p2 p3
          have hEr := hE.below hb
          have HF := Lib.hid (PoS.fits_eq s n t who target ra right rights allow)
          have hwb := Whole.made wr 85 #[.string ⟨who.toArray⟩, .string ⟨target.toArray⟩, .string ⟨ra.toArray⟩, .int .i64 rights, .bool allow]
          have hba : Below wr.heap.size wr (wr.alloc (.cells #[.string ⟨who.toArray⟩, .string ⟨target.toArray⟩, .string ⟨ra.toArray⟩, .int .i64 rights, .bool allow] 85)) := grow1 wr _
          have hEa := hEr.below hba
          have hbk := hb.trans (hba.mono hb.size)
          have hu := fun w hE => dnunder_c n target (by omega) (by omega) w hE
          have hi := fun w hE => polwho_c who target ra rights allow s n p1 (by omega) hwho w hE
          unfold NmBool at hu hi
          generalize PoS.isS who s n = bi at *
          generalize DnS.underS n target = bu at *
          obtain ⟨A, hA⟩ : ∃ A, bits BinOp.and IntKind.i64 rights right = A := ⟨_, rfl⟩
          have HA2 : Hid (PoS.andI rights right = A) := Lib.hid hA
          cases hAz : (A == 0) with
          | true =>
            have hAn : (A != 0) = false := by simp [bne, hAz]
            have HT := Lib.hid (HNSK.out (by rw [HF.out, HA2.out, hAn]; simp))
            go_wp2_with fail
            go_roundw
            case rel => exact ⟨k + 1, by omega, by go_num, HT, hbk⟩
            case measure => simp [intOf]; omega
          | false =>
            have hAn : (A != 0) = true := by simp [bne, hAz]
            cases hra0 : (ra == []) with
            | true =>
              have hra1 : ra.isEmpty = true := by cases ra <;> simp_all
              have hta : ((ra == []) || (ra == t)) = true := by rw [hra0]; rfl
              cases bi with
              | false =>
                have HT := Lib.hid (HNSK.out (by rw [HF.out, HA2.out]; simp))
                go_wp2_with fail
                refine (hi _ hEa).mono ?_; rintro e w5 ⟨rfl, hb5⟩
                have hw5 := hwb.call hb5
                have d1 := hw5.cell 1
                have d2 := hw5.cell 2
                have d3 := hw5.cell 3
                have d4 := hw5.cell 4
                simp only [List.getElem?_toArray, List.getElem?_cons_zero, List.getElem?_cons_succ] at d1 d2 d3 d4
                have hbk5 := hbk.trans (hb5.mono hbk.size)
                go_wp2_with fail
                go_roundw
                case rel => exact ⟨k + 1, by omega, by go_num, HT, hbk5⟩
                case measure => simp [intOf]; omega
              | true =>
                cases bu with
                | false =>
                  have HT := Lib.hid (HNSK.out (by rw [HF.out, HA2.out]; simp))
                  go_wp2_with fail
                  refine (hi _ hEa).mono ?_; rintro e w5 ⟨rfl, hb5⟩
                  have hw5 := hwb.call hb5
                  have d1 := hw5.cell 1
                  have d2 := hw5.cell 2
                  have d3 := hw5.cell 3
                  have d4 := hw5.cell 4
                  simp only [List.getElem?_toArray, List.getElem?_cons_zero, List.getElem?_cons_succ] at d1 d2 d3 d4
                  have hbk5 := hbk.trans (hb5.mono hbk.size)
                  go_wp2_with fail
                  refine (hu _ (hEa.below hb5)).mono ?_; rintro e w6 ⟨rfl, hb6⟩
                  have hw6 := hw5.call hb6
                  have f2 := hw6.cell 2
                  have f4 := hw6.cell 4
                  simp only [List.getElem?_toArray, List.getElem?_cons_zero, List.getElem?_cons_succ] at f2 f4
                  have hbk6 := hbk5.trans (hb6.mono hbk5.size)
                  go_wp2_with fail
                  go_roundw
                  case rel => exact ⟨k + 1, by omega, by go_num, HT, hbk6⟩
                  case measure => simp [intOf]; omega
                | true =>
                  have HR : Hid (R = allow) := Lib.hid (by rw [HIN.out]; exact HFAK.out (by rw [HF.out, HA2.out, hAn, hta]; rfl))
                  go_wp2_with fail
                  refine (hi _ hEa).mono ?_; rintro e w5 ⟨rfl, hb5⟩
                  have hw5 := hwb.call hb5
                  have d1 := hw5.cell 1
                  have d2 := hw5.cell 2
                  have d3 := hw5.cell 3
                  have d4 := hw5.cell 4
                  simp only [List.getElem?_toArray, List.getElem?_cons_zero, List.getElem?_cons_succ] at d1 d2 d3 d4
                  have hbk5 := hbk.trans (hb5.mono hbk.size)
                  go_wp2_with fail
                  refine (hu _ (hEa.below hb5)).mono ?_; rintro e w6 ⟨rfl, hb6⟩
                  have hw6 := hw5.call hb6
                  have f2 := hw6.cell 2
                  have f4 := hw6.cell 4
                  simp only [List.getElem?_toArray, List.getElem?_cons_zero, List.getElem?_cons_succ] at f2 f4
                  have hbk6 := hbk5.trans (hb6.mono hbk5.size)
                  go_wp2_with fail
                  go_ret
                  exact ⟨by rw [HR.out]; rfl, hbk6⟩
            | false =>
              have hra1 : ra.isEmpty = false := by cases ra <;> simp_all
              cases hrt : (ra == t) with
              | true =>
                have hta : ((ra == []) || (ra == t)) = true := by rw [hrt]; simp
                cases bi with
                | false =>
                  have HT := Lib.hid (HNSK.out (by rw [HF.out, HA2.out]; simp))
                  go_wp2_with fail
                  refine (hi _ hEa).mono ?_; rintro e w5 ⟨rfl, hb5⟩
                  have hw5 := hwb.call hb5
                  have d1 := hw5.cell 1
                  have d2 := hw5.cell 2
                  have d3 := hw5.cell 3
                  have d4 := hw5.cell 4
                  simp only [List.getElem?_toArray, List.getElem?_cons_zero, List.getElem?_cons_succ] at d1 d2 d3 d4
                  have hbk5 := hbk.trans (hb5.mono hbk.size)
                  go_wp2_with fail
                  go_roundw
                  case rel => exact ⟨k + 1, by omega, by go_num, HT, hbk5⟩
                  case measure => simp [intOf]; omega
                | true =>
                  cases bu with
                  | false =>
                    have HT := Lib.hid (HNSK.out (by rw [HF.out, HA2.out]; simp))
                    go_wp2_with fail
                    refine (hi _ hEa).mono ?_; rintro e w5 ⟨rfl, hb5⟩
                    have hw5 := hwb.call hb5
                    have d1 := hw5.cell 1
                    have d2 := hw5.cell 2
                    have d3 := hw5.cell 3
                    have d4 := hw5.cell 4
                    simp only [List.getElem?_toArray, List.getElem?_cons_zero, List.getElem?_cons_succ] at d1 d2 d3 d4
                    have hbk5 := hbk.trans (hb5.mono hbk.size)
                    go_wp2_with fail
                    refine (hu _ (hEa.below hb5)).mono ?_; rintro e w6 ⟨rfl, hb6⟩
                    have hw6 := hw5.call hb6
                    have f2 := hw6.cell 2
                    have f4 := hw6.cell 4
                    simp only [List.getElem?_toArray, List.getElem?_cons_zero, List.getElem?_cons_succ] at f2 f4
                    have hbk6 := hbk5.trans (hb6.mono hbk5.size)
                    go_wp2_with fail
                    go_roundw
                    case rel => exact ⟨k + 1, by omega, by go_num, HT, hbk6⟩
                    case measure => simp [intOf]; omega
                  | true =>
                    have HR : Hid (R = allow) := Lib.hid (by rw [HIN.out]; exact HFAK.out (by rw [HF.out, HA2.out, hAn, hta]; rfl))
                    go_wp2_with fail
                    refine (hi _ hEa).mono ?_; rintro e w5 ⟨rfl, hb5⟩
                    have hw5 := hwb.call hb5
                    have d1 := hw5.cell 1
                    have d2 := hw5.cell 2
                    have d3 := hw5.cell 3
                    have d4 := hw5.cell 4
                    simp only [List.getElem?_toArray, List.getElem?_cons_zero, List.getElem?_cons_succ] at d1 d2 d3 d4
                    have hbk5 := hbk.trans (hb5.mono hbk.size)
                    go_wp2_with fail
                    refine (hu _ (hEa.below hb5)).mono ?_; rintro e w6 ⟨rfl, hb6⟩
                    have hw6 := hw5.call hb6
                    have f2 := hw6.cell 2
                    have f4 := hw6.cell 4
                    simp only [List.getElem?_toArray, List.getElem?_cons_zero, List.getElem?_cons_succ] at f2 f4
                    have hbk6 := hbk5.trans (hb6.mono hbk5.size)
                    go_wp2_with fail
                    go_ret
                    exact ⟨by rw [HR.out]; rfl, hbk6⟩
              | false =>
                have HT := Lib.hid (HNSK.out (by rw [HF.out, hra0, hrt]; simp))
                go_wp2_with fail
                go_roundw
                case rel => exact ⟨k + 1, by omega, by go_num, HT, hbk⟩
                case measure => simp [intOf]; omega
        · have hkn : k = m := by omega
          subst hkn
          have HR : Hid (R = false) := Lib.hid (by rw [HIN.out]; exact HFN.out (by have := HA.out; rwa [List.take_of_length_le (by rw [HN.out]; omega)] at this))
          go_wp2_with fail
          go_ret
          exact ⟨by rw [HR.out]; rfl, hb⟩
end Go.Proofs.YtdcljilfnkmloaaGreatDoor
