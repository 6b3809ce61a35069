/- The walks of the laws DnParses and DnPrints. Conditions: the list's lengths are those of an int; the library's variables are laid. -/
import Derived.Test.YtadhkemdndcjlaaGreatDoorDnF
import Derived.Test.YtadhkemdndcjlaaGreatDoorDnq
namespace Go.Proofs.YtadhkemdndcjlaaGreatDoor
open Go.RowKit

theorem bytes_list6 (x : ByteArray) : ∃ l : List UInt8, x = ⟨l.toArray⟩ := ⟨x.data.toList, by cases x; simp⟩
theorem name_len (s : List UInt8) : (DnS.nameS s).1.length ≤ 12 ∧ ∀ q ∈ (DnS.nameS s).1, q.length ≤ 1000000 := by
  by_cases h : (DnS.nameS s).2 = 0
  · have := DnS.nameS_formed (s := s) (l := (DnS.nameS s).1) (by rw [← h])
    exact ⟨this.1, fun q hq => Nat.le_trans (RdS.formed_small (this.2.1 q hq)).1 (by decide)⟩
  · rw [DnS.name_bad h]
    exact ⟨by simp, fun q hq => by cases hq⟩
theorem printN_len (l : List (List RdS.Pr)) : (DnS.printN l).1.length ≤ 1000 := by
  unfold DnS.printN
  split
  · simp
  · split
    · unfold DnS.fitS
      split
      · simp
      · show (DnS.joinS (l.map DnS.ptext)).length ≤ 1000; omega
    · simp
/-- a list of parts that is looked at -/
def SmallQ (q : List RdS.Pr) : Prop := q.length ≤ 10 ∧ ∀ p ∈ q, p.1.length ≤ 3000 ∧ p.2.length ≤ 3000
def PrsLoop (ls : List (List RdS.Pr)) (w : World) (b : Nat) (i : Value) (wr : World) : Prop :=
  ∃ (k : Nat) (a : Option Addr) (c : Nat), k ≤ ls.length ∧ i = .int .i64 k ∧ OwnSS 27 32 wr (b + 1) (.slice a k c) (ls.take k) ∧ Hid (∀ q ∈ ls.take k, SmallQ q) ∧ Whole wr b 26 #[.slice a k c] ∧ Below w.heap.size w wr
def PrsLoop2 (xs : List RdS.Pr) (w0 : World) (out i : Value) (wr : World) : Prop :=
  ∃ k : Nat, k ≤ xs.length ∧ i = .int .i64 k ∧ OwnA 32 wr w0.heap.size out (xs.take k) ∧ Hid (∀ p ∈ xs.take k, p.1.length ≤ 3000 ∧ p.2.length ≤ 3000) ∧ Below w0.heap.size w0 wr
theorem infoAva1 : (Tryz.prog.info? 32).map (fun i => (i.zero, i.size, i.bytes)) = some (some (.agg #[.string ⟨#[]⟩, .string ⟨#[]⟩]), 2, 32) := by kernel_rfl
theorem infoAvas6 : (Tryz.prog.info? 27).map (fun i => (i.zero, i.size, i.bytes)) = some (some (.slice none 0 0), 1, 24) := by kernel_rfl
theorem mem_step {α : Type} {P : α → Prop} {l : List α} {k : Nat} (h : k < l.length) (h1 : ∀ q ∈ l.take k, P q) (h2 : P l[k]) : ∀ q ∈ l.take (k + 1), P q := by
  intro q hq
  rw [List.take_succ_eq_append_getElem h] at hq
  rcases List.mem_append.1 hq with hq | hq
  · exact h1 q hq
  · rw [List.mem_singleton] at hq; subst hq; exact h2

set_option maxRecDepth 100000 in
set_option maxHeartbeats 8000000 in
theorem lawdnprints_c (v0 : Value) (ls : List (List RdS.Pr)) (w : World) (h : AvssIn w v0 ls) (hl : ls.length ≤ 9223372036854775807 ∧ ∀ q ∈ ls, q.length ≤ 9223372036854775807) (hE : Env w) : Calls Tryz.prog 3 #[v0] w (True_ w) := by
  have hv0 := h
  obtain ⟨a, c, rfl, hc, hcell⟩ := h.cells
  by_cases hn40 : 40 < ls.length
  · have hz : (40 : Int) < (ls.length : Int) := by omega
    obtain ⟨hl1, _⟩ := hl
    clear hn40 hcell h hv0
    generalize ls.length = n at *
    go_enter Tryz.func3, Tryz.ntmps3
    go_wp2_with fail
    refine (awake06_c _ hE).mono ?_; rintro e w1 ⟨rfl, hb1⟩
    go_wp2_with fail
    refine (awake06_c _ (hE.below hb1)).mono ?_; rintro e w2 ⟨rfl, hb2⟩
    go_wp2_with fail
    go_ret
    exact ⟨rfl, below_trans hb1 hb2⟩
  have hz : decide ((40 : Int) < (ls.length : Int)) = false := decide_eq_false (by omega)
  have hn : ls.length ≤ 40 := by omega
  have HC := Lib.hid hcell
  have HL := Lib.hid (fun k (h : k < ls.length) => hl.2 ls[k] (List.getElem_mem h))
  have HV0 := Lib.hid hv0
  clear hcell h hv0 hn40 hl
  generalize hln : ls.length = n at hz hn hc ⊢
  have HN := Lib.hid hln
  clear hln
  go_enter Tryz.func3, Tryz.ntmps3
  go_wp2_with fail
  refine (awake06_c _ hE).mono ?_; rintro e w1 ⟨rfl, hb1⟩
  have hwb0 := Whole.made w1 26 #[.slice none 0 0]
  have hba := below_trans hb1 (grow1 w1 (.cells #[.slice none 0 0] 26))
  have hw1 := hb1.size
  go_wp2_with fail
  go_loopw [23] (fun i wr => PrsLoop ls w w1.heap.size i wr) (fun i _ => n - (intOf i).toNat)
  case atStart => exact ⟨0, none, 0, Nat.zero_le _, rfl, OwnSS.empty _ _ _ _, Lib.hid (by simp), hwb0, hba⟩
  case round =>
    obtain ⟨k, a2, c2, hk, rfl, hown, HSM, hwb, hb⟩ := hrel
    rw [HN.out] at hk
    have hsz := hb.size
    have hEr := hE.below hb
    have hlw := hwb.lt
    have HOWN := Lib.hid hown
    clear hown
    by_cases hlt : k < n
    · have hlt2 : k < ls.length := by rw [HN.out]; exact hlt
      obtain ⟨g, o, rfl, hg, u, hcx, hav⟩ := HC.out k hlt2
      replace hcx : wr.cell? ⟨g, o + k, none⟩ = some u := (hb.cell (p := ⟨g, o + k, none⟩) hg).trans hcx
      have hxl := HL.out k hlt2
      have HST := Lib.hid (fun h => mem_step (P := SmallQ) hlt2 HSM.out h)
      have HTK := Lib.hid (List.take_succ_eq_append_getElem hlt2)
      have HTL : Hid ((ls.take k).length = k) := Lib.hid (by rw [List.length_take]; omega)
      generalize ls[k] = xs at *
      obtain ⟨a3, c3, rfl, hd3, hat⟩ := hav.cells
      have HAT := Lib.hid hat
      clear hlt2 hat hav
      by_cases hx10 : 10 < xs.length
      · have hz1 : (10 : Int) < (xs.length : Int) := by omega
        clear hx10 HST HTK HAT
        generalize xs.length = m at *
        go_wp2_with fail
        go_ret
        exact ⟨rfl, hb⟩
      have hz1 : decide ((10 : Int) < (xs.length : Int)) = false := decide_eq_false (by omega)
      have hm10 : xs.length ≤ 10 := by omega
      clear hx10
      generalize hm : xs.length = m at hxl hd3 hz1 hm10 hcx
      have HM := Lib.hid hm
      clear hm
      obtain ⟨i0, hi, hz00, hz01, hz02⟩ := info_parts infoAva1
      have HI := Lib.hid hi
      obtain ⟨i1, hi1, hz10, hz11, hz12⟩ := info_parts infoAvas6
      have HI1 := Lib.hid hi1
      clear hi hi1
      go_wp2_with fail
      generalize wr = wz at *
      go_loopw [5, 37] (fun out i wr2 => PrsLoop2 xs wz out i wr2) (fun _ i _ => m - (intOf i).toNat)
      case atStart => exact ⟨0, Nat.zero_le _, rfl, OwnA.empty _ _ _, Lib.hid (by simp), Below.refl _ _⟩
      case round =>
        obtain ⟨j, hj, rfl, hown2, HS2, hb2⟩ := hrel
        rw [HM.out] at hj
        have hsz2 := hb2.size
        have hbx : Below w.heap.size w _ := hb.trans (hb2.mono hsz)
        have hgr : g < wz.heap.size := Nat.lt_of_lt_of_le hg hsz
        have hcx2 := (hb2.cell (p := ⟨g, o + k, none⟩) hgr).trans hcx
        have HOWN2 := Lib.hid hown2
        clear hown2
        by_cases hjlt : j < m
        · have hj2 : j < xs.length := by rw [HM.out]; exact hjlt
          obtain ⟨p1, q1, rfl, hp1, s1, t1⟩ := HAT.out j hj2
          replace s1 := (hbx.cell (p := ⟨p1, q1 + j * 2, none⟩) hp1).trans s1
          replace t1 := (hbx.cell (p := ⟨p1, q1 + j * 2 + 1, none⟩) hp1).trans t1
          have HST2 := Lib.hid (fun h => mem_step (P := fun p : RdS.Pr => p.1.length ≤ 3000 ∧ p.2.length ≤ 3000) hj2 HS2.out h)
          have HTK2 := Lib.hid (List.take_succ_eq_append_getElem hj2)
          have htl2 : (xs.take j).length ≤ 1000000 := by rw [List.length_take]; omega
          generalize xs[j] = p at *
          obtain ⟨t, u⟩ := p
          simp only at s1 t1 HST2
          unfold strV at s1 t1
          have hfew : ∀ w : World, Calls Tryz.prog 26 #[.slice (some ⟨w.heap.size, 0, none⟩) 2 2] (w.alloc (.cells #[.string ⟨t.toArray⟩, .string ⟨u.toArray⟩] 9)).drew (FewRet 3000 [t, u] (w.alloc (.cells #[.string ⟨t.toArray⟩, .string ⟨u.toArray⟩] 9)).drew) := fun w => few06_c _ [t, u] _ (StrsIn.laid w.drew [t, u] 2 rfl) (by simp)
          have HALL : Hid (([t, u].all fun x => decide (x.length ≤ 3000)) = true → t.length ≤ 3000 ∧ u.length ≤ 3000) := Lib.hid (fun h => by simpa using h)
          unfold FewRet at hfew
          generalize ([t, u].all fun x => decide (x.length ≤ 3000)) = bq at *
          clear hj2
          go_wp2_with fail
          go_region_held3 (fun W => W.cell? ⟨g, o + k, none⟩ = some (.slice (some ⟨p1, q1, none⟩) m c3) ∧ W.cell? ⟨p1, q1 + j * 2, none⟩ = some (.string ⟨t.toArray⟩) ∧ W.cell? ⟨p1, q1 + j * 2 + 1, none⟩ = some (.string ⟨u.toArray⟩)) (first | exact ⟨hcx2, s1, t1⟩ | go_keep)
            (first | (go_at_call 26; (with_reducible refine (hfew _).mono ?_); rintro e w2 ⟨rfl, rfl⟩))
          have hbd : Below wr.heap.size wr (wr.alloc (.cells #[.string ⟨t.toArray⟩, .string ⟨u.toArray⟩] 9)).drew := Below.drew (grow1 wr _)
          have k1 := (hbd.cell (p := ⟨g, o + k, none⟩) (Nat.lt_of_lt_of_le hgr hsz2)).trans hcx2
          have k2 := (hbd.cell (p := ⟨p1, q1 + j * 2, none⟩) (Nat.lt_of_lt_of_le hp1 hbx.size)).trans s1
          have k3 := (hbd.cell (p := ⟨p1, q1 + j * 2 + 1, none⟩) (Nat.lt_of_lt_of_le hp1 hbx.size)).trans t1
          generalize (wr.alloc (.cells #[.string ⟨t.toArray⟩, .string ⟨u.toArray⟩] 9)).drew = wd at *
          have hszd := hbd.size
          have hbxd := hbx.trans (hbd.mono hbx.size)
          cases bq with
          | false =>
            go_wp2_with fail
            go_ret
            exact ⟨rfl, hbxd⟩
          | true =>
            have HS3 := Lib.hid (HST2.out (HALL.out rfl))
            clear HALL
            go_wp2_with (at_builtin; refine push_ava 32 27 Tryz.underlying27 HI.out hz00 hz01 hz02 (by rfl) (by rfl) _ _ (by rfl) wz.heap.size _ (xs.take j) (by rfl) ((HOWN2.out.call hbd).alloc _) wd.heap.size (by rfl) (t, u) ?e1 ?e2 ?e3 ?e4 ?_)
            case e1 => simp [go_sem, strV]
            case e2 => simp [go_sem, strV]
            case e3 => omega
            case e4 => simp; omega
            intro v' w4 hown4 hb4
            have HOWN4 := Lib.hid hown4
            clear hown4
            go_wp2_with fail
            go_roundw
            case rel => exact ⟨j + 1, by rw [HM.out]; omega, by go_num, by rw [HTK2.out]; exact HOWN4.out, HS3, (((hb2.trans (hbd.mono hsz2))).alloc (by omega) _).trans hb4⟩
            case measure => simp [intOf]; omega
        · have hjm : j = m := by omega
          subst hjm
          have hall2 : xs.take j = xs := List.take_of_length_le (by rw [HM.out]; omega)
          have hown2 := HOWN2.out
          have hs2 := HS2.out
          rw [hall2] at hown2 hs2
          have HSM2 := Lib.hid (HST.out ⟨by rw [HM.out]; exact hm10, hs2⟩)
          obtain ⟨a5, c5, rfl⟩ := hown2.form
          have hav5 := hown2.avas
          have htg5 := Tag.own hown2 xs.length
          rw [HM.out] at hav5 htg5 ⊢
          have hwb2 := hwb.call hb2
          have hown5 := HOWN.out.call hb2
          have hcb2 : wr.cell? ⟨w1.heap.size, 0, none⟩ = some (.slice a2 k c2) := hwb2.cell 0
          have hlw2 := hwb2.lt
          clear hall2 hown2 hs2 HOWN2 HS2 hcx2
          go_wp2_with (at_builtin; refine push_avs 27 32 24 (by decide) Tryz.underlying24 HI1.out hz10 hz11 hz12 (by rfl) _ _ (by rfl) (w1.heap.size + 1) _ (ls.take k) (by rfl) (hown5.call (grow1 wr _)) wr.heap.size (by rfl) (.slice a5 j c5) (by rfl) xs ?e1 (hav5.call (grow1 wr _) (Nat.le_refl _)) (htg5.call (grow1 wr _)) ?e3 ?e4 ?_)
          case e1 => simp [go_sem]
          case e3 => rw [HTL.out]; omega
          case e4 => simp; omega
          intro v' w4 hown4 hb4 _
          obtain ⟨a6, c6, rfl⟩ := hown4.form
          have hl4 : (ls.take k ++ [xs]).length = k + 1 := by simp [HTL.out]
          rw [hl4] at hown4
          simp only [hl4]
          have hwb4 := (hwb2.alloc (.cells #[.slice a5 j c5] 27)).below hb4 (Nat.lt_succ_self _)
          have hcb4 : w4.cell? ⟨w1.heap.size, 0, none⟩ = some (.slice a2 k c2) := hwb4.cell 0
          have hfb4 : w4.frozen? ⟨w1.heap.size, 0, none⟩ = false := hwb4.thaw 0
          have HBW : Hid (Below w.heap.size w w4) := Lib.hid ((hbx.alloc (by have := hbx.size; omega) _).trans (hb4.mono (by omega)))
          have HOWN4 := Lib.hid hown4
          clear hown4 hb4 hwb2 hcb2
          go_wp2_with fail
          go_roundw
          case rel => exact ⟨k + 1, a6, c6, by rw [HN.out]; omega, by go_num, by rw [HTK.out]; exact HOWN4.out.setHdr hwb4 (Nat.lt_succ_self _) _, HSM2, hwb4.put 0 _, HBW.out.setCell hw1 _⟩
          case measure => simp [intOf]; omega
    · have hkn : k = n := by omega
      subst hkn
      have hall : ls.take k = ls := List.take_of_length_le (by rw [HN.out]; omega)
      have hsm := HSM.out
      have hown := HOWN.out
      rw [hall] at hsm hown
      have HPF : Hid (∀ q ∈ ls, PairsFit q) := Lib.hid (fun q hq p hp => by have := (hsm q hq).2 p hp; omega)
      have HQL : Hid (∀ q ∈ ls, q.length ≤ 1000000) := Lib.hid (fun q hq => by have := (hsm q hq).1; omega)
      have h1 := dnprint_c _ ls wr hown.avss HPF.out hEr (by rw [HN.out]; omega)
      have h2 := fun w hE h => rnprintname_c (.slice a k c) ls w h HPF.out hE (by rw [HN.out]; omega)
      have HP := Lib.hid (fun z => DnS.print_back (l := ls) (s := z))
      have hpl := printN_len ls
      unfold PrN at h1 h2
      have hcb : wr.cell? ⟨w1.heap.size, 0, none⟩ = some (.slice a2 k c2) := hwb.cell 0
      generalize DnS.printN ls = P at *
      obtain ⟨s, e0⟩ := P
      simp only at h1 h2 hpl
      have hv0 := HV0.out
      have hl40 : ls.length ≤ 1000000 := by rw [HN.out]; omega
      rw [HN.out] at hv0
      have HV := Lib.hid hv0
      have HL40 := Lib.hid hl40
      clear hall hsm hown HSM HOWN hv0 hl40 HV0
      go_wp2_with fail
      refine h1.mono ?_; rintro e w2 ⟨rfl, hb2⟩
      have hE2 := hEr.below hb2
      have hbx2 := hb.trans (hb2.mono hsz)
      go_wp2_with fail
      have hv02 := HV.out.call hbx2 (Nat.le_refl _)
      refine (h2 _ hE2 hv02).mono ?_; rintro e w3 ⟨rfl, hb3⟩
      have hE3 := hE2.below hb3
      have hbx3 := hbx2.trans (hb3.mono hbx2.size)
      by_cases he : e0 = 0
      · subst he
        have h3 := fun w hE => dnparse_c s (by omega) w hE
        unfold NameRetP at h3
        rw [HP.out s rfl] at h3
        simp only at h3
        clear HP h1 h2
        go_wp2_with fail
        refine (h3 _ hE3).mono ?_; rintro e w4 ⟨v4, rfl, hv4, hb4⟩
        obtain ⟨a4, n4, c4, rfl⟩ : ∃ a4 n4 c4, v4 = .slice a4 n4 c4 := by
          obtain ⟨a4, c4, e, _⟩ := hv4.at
          exact ⟨a4, _, c4, e⟩
        have hbx4 := hbx3.trans (hb4.mono hbx3.size)
        have hbs : Below w4.heap.size w4 (w4.alloc (.cells #[.slice a4 n4 c4] 26)) := grow1 w4 _
        have hv4a := hv4.call hbs (Nat.le_refl _)
        have hbx5 := hbx4.trans (hbs.mono hbx4.size)
        have hv0a := HV.out.call hbx5 (Nat.le_refl _)
        have hsame := same06_c (.slice a4 n4 c4) (.slice a k c) ls ls _ hv4a hv0a HL40.out HL40.out HQL.out HQL.out
        unfold SameNRet at hsame
        rw [decide_eq_true (rfl : ls = ls)] at hsame
        clear hv4a hv0a hv4 hv02 h3
        go_wp2_with fail
        generalize w4.alloc (.cells #[.slice a4 n4 c4] 26) = w5 at *
        refine hsame.mono ?_; rintro e w7 ⟨rfl, hb7⟩
        go_wp2_with fail
        go_ret
        exact ⟨rfl, hbx5.trans (hb7.mono hbx5.size)⟩
      · have hez : (e0 != 0) = true := by simpa using he
        clear HP h1 h2
        go_wp2_with fail
        go_ret
        exact ⟨rfl, hbx3⟩
end Go.Proofs.YtadhkemdndcjlaaGreatDoor
