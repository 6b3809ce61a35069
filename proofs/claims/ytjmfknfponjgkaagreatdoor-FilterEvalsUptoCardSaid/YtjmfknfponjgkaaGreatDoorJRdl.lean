/- The walk of the document's 'pair': a pair, read. Conditions: as stated. -/
import Derived.Deep.DrawnRows
import Derived.Deep.RegionHeld3
import Derived.Laws.AppendOwnNone
import Derived.BigQuiet
import Derived.Deep.QuietTactic
import Derived.Test.YtjmfknfponjgkaaGreatDoorJRdi
import Derived.Test.YtjmfknfponjgkaaGreatDoorJRub
import Derived.Test.YtjmfknfponjgkaaGreatDoorJRuS
import Derived.Test.YtjmfknfponjgkaaGreatDoorJRda
import Derived.Test.YtjmfknfponjgkaaGreatDoorJRug
set_option maxRecDepth 100000
set_option maxHeartbeats 8000000
namespace Go.Proofs.YtjmfknfponjgkaaGreatDoor
section
open Go.RowKit
theorem Whole.two {w : World} {g : Nat} {T : TypeId} {x y : Value} (h : Whole w g T #[x, y]) (a b : Value) :
  w.cell? ⟨g, 0, none⟩ = some x /\ w.cell? ⟨g, 1, none⟩ = some y /\ w.frozen? ⟨g, 0, none⟩ = false /\ w.frozen? ⟨g, 1, none⟩ = false /\
  (w.setCell ⟨g, 0, none⟩ a).cell? ⟨g, 1, none⟩ = some y /\ (w.setCell ⟨g, 0, none⟩ a).frozen? ⟨g, 1, none⟩ = false /\
  ((w.setCell ⟨g, 0, none⟩ a).setCell ⟨g, 1, none⟩ b).cell? ⟨g, 0, none⟩ = some a /\ ((w.setCell ⟨g, 0, none⟩ a).setCell ⟨g, 1, none⟩ b).cell? ⟨g, 1, none⟩ = some b := by
 have h1 := h.put 0 a
 have h2 := h1.put 1 b
 exact ⟨h.cell 0, h.cell 1, h.thaw 0, h.thaw 1, h1.cell 1, h1.thaw 1, h2.cell 0, h2.cell 1⟩
def PairRet (l : List UInt8) (w : World) (e : Ending) (w' : World) : Prop :=
 ∃ (t v : List UInt8) (b : Bool), e = .returned (.tuple #[.agg #[.string ⟨t.toArray⟩, .string ⟨v.toArray⟩], .bool b]) /\ (b = true -> RdS.pairS l = some (t, v)) /\ (b = false -> RdS.pairS l = none) /\ Below w.heap.size w w'
theorem name_at {l : List UInt8} {k : Nat} (hk : k < l.length) (hc : l[k] = 61) (hn : ∀ c ∈ l.take k, c ≠ 61) : RdS.nameOf l = l.take k /\ l.contains 61 = true := by
 have e : l = l.take k ++ 61 :: l.drop (k + 1) := by
  conv => lhs; rw [<- List.take_append_drop k l, List.drop_eq_getElem_cons hk, hc]
 refine ⟨?_, ?_⟩
 · unfold RdS.nameOf
   conv => lhs; rw [e]
   exact RdS.takeWhile_stop hn
 · rw [List.contains_iff_mem, <- hc]; exact List.getElem_mem hk
theorem type_zero (nm : List UInt8) : ((RuS.typeOf nm).1 = []) ↔ (RuS.typeOf nm).2 = 0 := by
 rcases RuS.typeM_all (RuS.lower nm) with e | e
 · have e2 : RuS.typeOf nm = ([], 0) := e
   rw [e2]; simp
 · have h1 : 1 <= (RuS.typeOf nm).2 := e.1
   have h2 : 1 <= (RuS.typeOf nm).1.length := e.2.2.1
   constructor
   · intro h; rw [h] at h2; simp at h2
   · intro h; omega
theorem refpair_c (l : List UInt8) (hl : l.length <= 1000000) (w : World) : Calls Tryz.prog 201 #[.string ⟨l.toArray⟩] w (PairRet l w) := by
 have hwh := Whole.made w 209 #[.string ⟨#[]⟩, .string ⟨#[]⟩]
 have hb0 := grow1 w (.cells #[.string ⟨#[]⟩, .string ⟨#[]⟩] 209)
 go_enter Tryz.func201, Tryz.ntmps201
 go_wp2_with fail
 generalize hw0 : (w.alloc (.cells #[.string ⟨#[]⟩, .string ⟨#[]⟩] 209)) = w0 at *
 clear hw0
 go_loop [4] (fun i => ∃ k : Nat, k <= l.length /\ i = .int .i64 k /\ Hid (∀ c ∈ l.take k, c ≠ 61)) (fun i => l.length - (intOf i).toNat)
 case atStart => exact ⟨0, Nat.zero_le _, rfl, hZ9 (by simp)⟩
 case round =>
  obtain ⟨k, hk, rfl, HNE⟩ := hrel
  by_cases hlt : k < l.length
  · have HAT := hZ9 (fun h => name_at hlt h HNE.out)
    have HTK := hZ9 (List.take_succ_eq_append_getElem hlt)
    generalize hcq : l[k] = c at *
    have hq2 : ∀ h, (⟨l.toArray⟩ : ByteArray)[k]'h = c := fun _ => hcq
    clear hcq
    by_cases h61 : c = 61
    · have e61 : ((c.toNat : Int) != 61) = false := by rw [h61]; rfl
      have HNM := hZ9 (HAT.out h61)
      have HP : Hid (RdS.pairS l = if (RuS.typeOf (l.take k)).1 = [] then none else (RdS.readS (l.drop (k + 1))).map ((RuS.typeOf (l.take k)).1, ·)) := hZ9 (by
       unfold RdS.pairS
       rw [HNM.out.2, HNM.out.1, if_pos rfl, List.length_take, Nat.min_eq_left hk])
      have hne : ((k : Int) == (l.length : Int)) = false := beq_eq_false_iff_ne.2 (by omega)
      have x1 : (⟨l.toArray⟩ : ByteArray).extract 0 k = ⟨(l.take k).toArray⟩ := by rw [mk_extract, List.drop_zero]
      have x2 : (⟨l.toArray⟩ : ByteArray).extract (k + 1) l.length = ⟨(l.drop (k + 1)).toArray⟩ := by rw [mk_extract, List.take_length]
      have ht := fun w => reftype_c ⟨(l.take k).toArray⟩ (by show (l.take k).toArray.size <= _; rw [List.size_toArray, List.length_take]; omega) w
      unfold TypeRet at ht
      have dn : (⟨(l.take k).toArray⟩ : ByteArray).data.toList = l.take k := rfl
      rw [dn] at ht
      have hv := fun w => refread_c (l.drop (k + 1)) (by rw [List.length_drop]; omega) w
      unfold ValRet at hv
      have HTZ := hZ9 (type_zero (l.take k))
      clear h61 dn HAT HTK
      generalize RuS.typeOf (l.take k) = ty at *
      obtain ⟨t, sy⟩ := ty
      simp only at ht
      generalize RdS.readS (l.drop (k + 1)) = rd at *
      go_wp2_with fail
      refine (ht _).mono ?_; rintro e w1 ⟨rfl, hb1⟩
      go_wp2_with fail
      refine (hv _).mono ?_; rintro e w2 ⟨rfl, hb2⟩
      have hwh2 := (hwh.call hb1).call hb2
      have hb3 : Below w.heap.size w w2 := hb0.trans ((below_trans hb1 hb2).mono hb0.size)
      cases rd with
      | none =>
       obtain ⟨c0, c1, f0, f1, c3, f3, k1, k2⟩ := hwh2.two (.string ⟨t.toArray⟩) (.string ⟨#[]⟩)
       have HN : Hid (RdS.pairS l = none) := hZ9 (by rw [HP.out]; split <;> rfl)
       clear hwh2 hwh
       go_wp2_with fail
       refine bodyPost_ret (v := .tuple #[.agg #[.string ⟨t.toArray⟩, .string ⟨#[]⟩], .bool false]) (by simp [results, Tryz.results201, go_sem, k1, k2]) rfl ?_
       exact ⟨t, [], false, rfl, (fun h => by cases h), fun _ => HN.out, (hb3.setCell (p := ⟨w.heap.size, 0, none⟩) (Nat.le_refl _) _).setCell (p := ⟨w.heap.size, 1, none⟩) (Nat.le_refl _) _⟩
      | some v =>
       obtain ⟨c0, c1, f0, f1, c3, f3, k1, k2⟩ := hwh2.two (.string ⟨t.toArray⟩) (.string ⟨v.toArray⟩)
       clear hwh2 hwh
       by_cases hsy : sy = 0
       · have HN : Hid (RdS.pairS l = none) := hZ9 (by rw [HP.out, if_pos (HTZ.out.2 hsy)])
         have e0 : (sy != 0) = false := by rw [hsy]; rfl
         clear hsy
         go_wp2_with fail
         refine bodyPost_ret (v := .tuple #[.agg #[.string ⟨t.toArray⟩, .string ⟨v.toArray⟩], .bool false]) (by simp [results, Tryz.results201, go_sem, k1, k2]) rfl ?_
         exact ⟨t, v, false, rfl, (fun h => by cases h), fun _ => HN.out, (hb3.setCell (p := ⟨w.heap.size, 0, none⟩) (Nat.le_refl _) _).setCell (p := ⟨w.heap.size, 1, none⟩) (Nat.le_refl _) _⟩
       · have HN : Hid (RdS.pairS l = some (t, v)) := hZ9 (by rw [HP.out, if_neg (fun h => hsy (HTZ.out.1 h))]; rfl)
         have e0 : (sy != 0) = true := by simpa using hsy
         clear hsy
         go_wp2_with fail
         refine bodyPost_ret (v := .tuple #[.agg #[.string ⟨t.toArray⟩, .string ⟨v.toArray⟩], .bool true]) (by simp [results, Tryz.results201, go_sem, k1, k2]) rfl ?_
         exact ⟨t, v, true, rfl, fun _ => HN.out, (fun h => by cases h), (hb3.setCell (p := ⟨w.heap.size, 0, none⟩) (Nat.le_refl _) _).setCell (p := ⟨w.heap.size, 1, none⟩) (Nat.le_refl _) _⟩
    · have HC := hZ9 h61
      have e61 : ((c.toNat : Int) != 61) = true := by rw [bne_iff_ne]; exact fun h => HC.out (u8_is rfl h)
      clear h61
      go_wp2_with fail
      go_round
      case rel => exact ⟨k + 1, by omega, by go_num, hZ9 (by
       intro d hd
       rw [HTK.out] at hd
       rcases List.mem_append.1 hd with hd | hd
       · exact HNE.out d hd
       · have := List.mem_singleton.1 hd; rw [this]; exact HC.out)⟩
      case measure => simp [intOf]; omega
  · have hkl : k = l.length := by omega
    subst hkl
    have HN : Hid (RdS.pairS l = none) := hZ9 (by
     have h := HNE.out
     rw [List.take_length] at h
     unfold RdS.pairS
     rw [if_neg]
     intro hc
     exact h 61 (List.contains_iff_mem.1 hc) rfl)
    obtain ⟨c0, c1, f0, f1, c3, f3, k1, k2⟩ := hwh.two (.string ⟨#[]⟩) (.string ⟨#[]⟩)
    clear hwh
    go_wp2_with fail
    refine bodyPost_ret (v := .tuple #[.agg #[.string ⟨#[]⟩, .string ⟨#[]⟩], .bool false]) (by simp [results, Tryz.results201, go_sem, k1, k2]) rfl ?_
    exact ⟨[], [], false, rfl, (fun h => by cases h), fun _ => HN.out, (hb0.setCell (p := ⟨w.heap.size, 0, none⟩) (Nat.le_refl _) _).setCell (p := ⟨w.heap.size, 1, none⟩) (Nat.le_refl _) _⟩
end
section
open Go.RowKit
attribute [local go_sem ↓] Go.wp_at_zero Go.wp_at_succ
def FmLoop2 (xs : List RdS.Pr) (w : World) (i : Value) (wr : World) : Prop := ∃ k : Nat, k <= xs.length /\ i = .int .i64 k /\ RdS.okTo xs k = true /\ Below w.heap.size w wr
theorem less_nil {t : List UInt8} (h : t ≠ []) : Op.bytesLess [] t = true := by
 cases t with
 | nil => exact absurd rfl h
 | cons a l => rfl
theorem refformed_any (v : Value) (xs : List RdS.Pr) (w : World) (h : AvasIn w v xs) (hf : PairsFit xs) (hE : Env w) : Calls Tryz.prog 180 #[v] w (FmRet xs w) := by
 obtain ⟨a, c, rfl, hc, h⟩ := h
 have HF := hZ9 (RdS.formed_okTo xs)
 rcases h with rfl | ⟨g, o, rfl, hg, h⟩
 · go_enter Tryz.func180, Tryz.ntmps180
   go_wp2_with fail
   go_ret
   exact ⟨rfl, Below.refl _ _⟩
 · have H := hZ9 h
   have HFI := hZ9 hf
   generalize hn : xs.length = n at *
   have HN := hZ9 hn
   clear h hf hn
   by_cases hn0 : n = 0
   · subst hn0
     go_enter Tryz.func180, Tryz.ntmps180
     go_wp2_with fail
     go_ret
     exact ⟨by rw [HF.out]; rfl, Below.refl _ _⟩
   by_cases hn3 : 3 < n
   · have HB : Hid (decide (n <= 3) = false) := hZ9 (decide_eq_false (by omega))
     have hz : decide ((n : Int) < 1) = false := decide_eq_false (by omega)
     have hz3 : (3 : Int) < (n : Int) := by omega
     go_enter Tryz.func180, Tryz.ntmps180
     go_wp2_with fail
     go_ret
     exact ⟨by rw [HF.out, HB.out]; simp, Below.refl _ _⟩
   have hz : decide ((n : Int) < 1) = false := decide_eq_false (by omega)
   have HB : Hid (decide (1 <= n) = true /\ decide (n <= 3) = true) := hZ9 ⟨decide_eq_true (by omega), decide_eq_true (by omega)⟩
   have hd3 : decide ((3 : Int) < (n : Int)) = false := decide_eq_false (by omega)
   have hn3' : n <= 3 := by omega
   clear hn0 hn3
   go_enter Tryz.func180, Tryz.ntmps180
   go_wp2_with fail
   go_loopw [18] (fun i wr => FmLoop2 xs w i wr) (fun i _ => n - (intOf i).toNat)
   case atStart => exact ⟨0, Nat.zero_le _, rfl, rfl, Below.refl _ _⟩
   case round =>
    obtain ⟨k, hk, rfl, hok, hb⟩ := hrel
    rw [HN.out] at hk
    have HOK := hZ9 hok
    clear hok
    by_cases hlt : k < n
    · have hlt2 : k < xs.length := by rw [HN.out]; exact hlt
      obtain ⟨c0, c1⟩ := H.out k _ (List.getElem?_eq_getElem hlt2)
      have HSUC := hZ9 (RdS.okTo_succ xs k hlt2)
      have HFL := hZ9 (fun hp n hn => RdS.okTo_false hlt2 hp n hn)
      obtain ⟨f1, f2⟩ := HFI.out _ (List.getElem_mem hlt2)
      have HPREV : Hid (∀ j, k = j + 1 -> ∃ p : RdS.Pr, RdS.lastT xs k = p.1 /\ wr.cell? ⟨g, o + j * 2, none⟩ = some (strV p.1)) := hZ9 (fun j hj => by
       have hj2 : j < xs.length := by omega
       exact ⟨xs[j], by rw [hj]; exact RdS.lastT_succ xs j hj2, (hb.cell (p := ⟨g, o + j * 2, none⟩) hg).trans (H.out j _ (List.getElem?_eq_getElem hj2)).1⟩)
      have HP0 : Hid (k = 0 -> RdS.lastT xs k = []) := hZ9 (fun h => by rw [h]; rfl)
      generalize xs[k] = p at *
      obtain ⟨t, u⟩ := p
      simp only at c0 c1 f1 f2
      replace c0 : wr.cell? ⟨g, o + k * 2, none⟩ = some (strV t) := (hb.cell (p := ⟨g, o + k * 2, none⟩) hg).trans c0
      replace c1 : wr.cell? ⟨g, o + k * 2 + 1, none⟩ = some (strV u) := (hb.cell (p := ⟨g, o + k * 2 + 1, none⟩) hg).trans c1
      unfold strV at c0 c1
      have HFA : Hid (RdS.pairOk (RdS.lastT xs k) (t, u) = false -> RdS.formedS xs = false) := hZ9 (fun hp => by
       rw [HF.out, HFL.out hp n hlt, Bool.and_false])
      have hty := fun w => reftype_c ⟨t.toArray⟩ f1 w
      unfold TypeRet at hty
      have hnm := fun w hE => refnormal_c ⟨t.toArray⟩ ⟨u.toArray⟩ f1 f2 w hE
      unfold NormRet at hnm
      have du : ∀ l : List UInt8, (⟨l.toArray⟩ : ByteArray).data.toList = l := fun _ => rfl
      rw [du] at hty
      rw [du, du] at hnm
      clear du
      have HP : Hid (RdS.pairOk (RdS.lastT xs k) (t, u) = (((RuS.typeOf t).1 == t) && ((RuS.typeOf t).2 == 1 || (RuS.typeOf t).2 == 3) && Op.bytesLess (RdS.lastT xs k) t && ((RuS.normal t u).2 == 0))) := hZ9 rfl
      have HTN := hZ9 (fun h => RdS.type_ne (nm := t) h)
      generalize RdS.lastT xs k = last at *
      generalize RuS.typeOf t = r at *
      generalize RuS.normal t u = nr at *
      obtain ⟨t', sy⟩ := r
      obtain ⟨x, e0⟩ := nr
      simp only at hty hnm
      have hbk := hb
      have HNM := hZ9 hnm
      clear hnm
      have HHG := hZ9 hg
      go_wp2_with fail
      refine (hty _).mono ?_; rintro e w1 ⟨rfl, hb1⟩
      have hg1 : g < wr.heap.size := Nat.lt_of_lt_of_le hg hb.size
      have d0 : w1.cell? ⟨g, o + k * 2, none⟩ = some (.string ⟨t.toArray⟩) := (hb1.cell (p := ⟨g, o + k * 2, none⟩) hg1).trans c0
      have d1 : w1.cell? ⟨g, o + k * 2 + 1, none⟩ = some (.string ⟨u.toArray⟩) := (hb1.cell (p := ⟨g, o + k * 2 + 1, none⟩) hg1).trans c1
      have hbw1 : Below w.heap.size w w1 := hbk.trans (hb1.mono hbk.size)
      have hE1 : Env w1.drew := (hE.below hbw1).drew
      have hnm1 := HNM.out w1.drew hE1
      clear c0 c1 hty
      go_wp2_with fail
      have hg2 : g < w1.drew.heap.size := Nat.lt_of_lt_of_le hg1 hb1.size
      go_region_held3 (fun W => W.cell? ⟨g, o + k * 2, none⟩ = some (.string ⟨t.toArray⟩) /\ W.cell? ⟨g, o + k * 2 + 1, none⟩ = some (.string ⟨u.toArray⟩)) (first | exact ⟨d0, d1⟩ | exact ⟨(hb2.cell (p := ⟨g, o + k * 2, none⟩) hg2).trans d0, (hb2.cell (p := ⟨g, o + k * 2 + 1, none⟩) hg2).trans d1⟩)
       (first | (go_at_call 58; (with_reducible refine hnm1.mono ?_); rintro e w2 ⟨rfl, hb2⟩))
      have hbw2 : Below w.heap.size w w2 := (hbw1.drew).trans (hb2.mono hbw1.size)
      have e0c : w2.cell? ⟨g, o + k * 2, none⟩ = some (.string ⟨t.toArray⟩) := (hb2.cell (p := ⟨g, o + k * 2, none⟩) hg2).trans d0
      have HPR : Hid (∀ j, k = j + 1 -> ∃ p : RdS.Pr, last = p.1 /\ w2.cell? ⟨g, o + j * 2, none⟩ = some (strV p.1)) := hZ9 (fun j hj => by
       obtain ⟨p, h1, h2⟩ := HPREV.out j hj
       exact ⟨p, h1, (hb2.cell (p := ⟨g, o + j * 2, none⟩) hg2).trans ((hb1.cell (p := ⟨g, o + j * 2, none⟩) hg1).trans h2)⟩)
      clear hnm1 d0 d1
      cases q1 : (t' == t) with
      | false =>
       have Q1 := hZ9 q1
       go_wp2_with fail
       go_ret
       exact ⟨by rw [HFA.out (by rw [HP.out]; simp only [Q1.out]; rfl)]; rfl, hbw2⟩
      | true =>
       have e1 := beq_iff_eq.1 q1
       subst e1
       clear q1
       by_cases q2 : sy = 1 \/ sy = 3
       · have HT0 := hZ9 (HTN.out q2)
         have Q2 : Hid ((sy == 1 || sy == 3) = true) := hZ9 (by rcases q2 with rfl | rfl <;> rfl)
         have q2b : (sy != 1) = false \/ ((sy != 1) = true /\ (sy != 3) = false) := by rcases q2 with rfl | rfl <;> simp
         clear q2
         by_cases q4 : e0 = 0
         · subst q4
           by_cases hk0 : k = 0
           · have HL0 := hZ9 (HP0.out hk0)
             have hkz : decide ((0 : Int) < (k : Int)) = false := decide_eq_false (by omega)
             have hkz2 : decide (0 < k) = false := decide_eq_false (by omega)
             clear hk0
             rcases q2b with g1 | ⟨g1, g3⟩
             all_goals
              go_wp2_with fail
              go_roundw
              case rel => exact ⟨k + 1, by rw [HN.out]; omega, by go_num, by rw [HSUC.out, HOK.out, HP.out, HL0.out, less_nil HT0.out, Q2.out]; simp, hbw2⟩
              case measure => simp [intOf]; omega
           · obtain ⟨j, hj⟩ : ∃ j, k = j + 1 := ⟨k - 1, by omega⟩
             obtain ⟨p, hp1, hp2⟩ := HPR.out j hj
             have hjk : (k : Int) - 1 = (j : Int) := by omega
             have hwj : IntKind.i64.wrap (j : Int) = (j : Int) := by rw [IntKind.wrap_i64]; omega
             have hjn : (j : Int) < (n : Int) := by omega
             have hkz : (0 : Int) < (k : Int) := by omega
             unfold strV at hp2
             rw [<- hp1] at hp2
             clear hk0 hj hp1
             cases q5 : Op.bytesLess last t' with
             | true =>
              have Q5 := hZ9 q5
              rcases q2b with g1 | ⟨g1, g3⟩
              all_goals
               go_wp2_with fail
               go_roundw
               case rel => exact ⟨k + 1, by rw [HN.out]; omega, by go_num, by rw [HSUC.out, HOK.out, HP.out, Q5.out, Q2.out]; simp, hbw2⟩
               case measure => simp [intOf]; omega
             | false =>
              have Q5 := hZ9 q5
              rcases q2b with g1 | ⟨g1, g3⟩
              all_goals
               go_wp2_with fail
               go_ret
               exact ⟨by rw [HFA.out (by rw [HP.out]; simp only [Q5.out, Bool.and_false, Bool.false_and])]; rfl, hbw2⟩
         · have hz5 : (e0 != 0) = true := by simpa using q4
           have Q4 : Hid ((e0 == 0) = false) := hZ9 (by simpa using q4)
           clear q4
           rcases q2b with g1 | ⟨g1, g3⟩
           all_goals
            go_wp2_with fail
            go_ret
            exact ⟨by rw [HFA.out (by rw [HP.out]; simp only [Q4.out, Bool.and_false])]; rfl, hbw2⟩
       · have g1 : (sy != 1) = true := by simp; omega
         have g3 : (sy != 3) = true := by simp; omega
         have Q2 : Hid ((sy == 1 || sy == 3) = false) := hZ9 (by simp; omega)
         clear q2
         go_wp2_with fail
         go_ret
         exact ⟨by rw [HFA.out (by rw [HP.out]; simp only [Q2.out, Bool.and_false, Bool.false_and])]; rfl, hbw2⟩
    · have hkn : k = n := by omega
      subst hkn
      go_wp2_with fail
      go_ret
      exact ⟨by rw [HF.out, HOK.out, HB.out.1, HB.out.2]; rfl, hb⟩
end
section
open Go.RowKit
namespace RdS
theorem pairS_len {p : List UInt8} {a : Pr} (h : pairS p = some a) : a.1.length <= 17 /\ a.2.length <= p.length := by
 unfold pairS at h
 split at h
 · split at h
   · cases h
   · obtain ⟨v, hv, rfl⟩ := Option.map_eq_some_iff.1 h
     refine ⟨?_, ?_⟩
     · rcases RuS.typeM_all (RuS.lower (nameOf p)) with e | e
       · have : RuS.typeOf (nameOf p) = ([], 0) := e
         rw [this]; simp
       · exact e.2.2.2
     · have := readS_len hv
       rw [List.length_drop] at this
       show v.length <= _; omega
 · cases h
theorem sortS_snoc (qs : List Pr) (a : Pr) : sortS (qs ++ [a]) = insS a (sortS qs) := by unfold sortS; rw [List.foldl_append]; rfl
theorem insS_at (a : Pr) : ∀ (os : List Pr) (n : Nat), n <= os.length -> (∀ j (h : j < os.length), j < n -> Op.bytesLess os[j].1 a.1 = true) -> (∀ h : n < os.length, Op.bytesLess os[n].1 a.1 = false) -> insS a os = os.take n ++ [a] ++ os.drop n
 | [], n, hn, _, _ => by
  have : n = 0 := by simpa using hn
  subst this; rfl
 | p :: os, 0, _, _, h2 => by
  have := h2 (by simp)
  unfold insS
  rw [if_neg (by simpa using this)]; rfl
 | p :: os, n + 1, hn, h1, h2 => by
  have h0 : Op.bytesLess p.1 a.1 = true := h1 0 (by simp) (by omega)
  have ih := insS_at a os n (by simpa using hn) (fun j h hj => h1 (j + 1) (by simpa using h) (by omega)) (fun h => h2 (by simpa using h))
  unfold insS
  rw [if_pos h0, ih]; rfl
end RdS
theorem push_avas {w : World} {ops : Array Oper} {rest : List Oper} {o : Oper} {a : Act} {Q : Exit -> Act -> World -> Prop} (T sT : TypeId) (hsT : Tryz.prog.underlying sT = some (.slice T)) {i0 : TypeInfo} {z : Value}
  (hi : Tryz.prog.info? T = some i0) (hz : i0.zero = some z) (hsz2 : i0.size = 2) (hby : i0.bytes = 32) (hzs : z.cells.size = 2) (hgd : o.guard = none) (s x : Operand)
  (ho : o.op = .call { callee := .builtin .append, args := #[s, x], argTypes := #[sT, sT] })
  (B : Nat) (v : Value) (xs : List RdS.Pr) (hs : a.eval s = v) (hown : OwnA T w B v xs) (ad : Addr) (m c : Nat) (hx : a.eval x = .slice (some ad) m c)
  (ys : List RdS.Pr) (hm : ys.length = m) (hc : ∀ (j : Nat) (u : Value), (avaC ys)[j]? = some u -> w.cell? (ad.add j) = some u) (hn : xs.length + m <= 1000000000) (hB : B <= w.heap.size)
  (h : ∀ v' w', OwnA T w' B v' (xs ++ ys) -> Below B w w' -> w.grownBy w' v.ownBlock -> wpList Tryz.prog ops Q rest (a.put o.dst v') w') : wpList Tryz.prog ops Q (o :: rest) a w := by
 subst hm
 refine wpList_append_own w hgd s x _ ho B T i0 z 2 32 hsT hi hz hsz2 hby hzs (by decide) v xs.length (avaC xs) hs hown ad ys.length c (avaC ys) hx (by rw [avaC_len])
  hc (fun u hu => ?_) (by unfold maxLen; omega) (by omega) hB (fun v' w' h1 h2 _ => h v' w' ?_ ?_ h2)
 · obtain ⟨p, _, hp⟩ := List.mem_flatMap.1 hu
   simp only [List.mem_cons, List.not_mem_nil, or_false] at hp
   rcases hp with rfl | rfl <;> rfl
 · unfold OwnA
   rw [avaC_append, List.length_append]
   exact h1
 · exact (Below.refl B w).grown h2 hB (fun k hk => (World.ownsRow.lt hown k hk).1)
theorem OwnA.mono {T : TypeId} {w : World} {B B' : Nat} {v : Value} {xs : List RdS.Pr} (h : OwnA T w B v xs) (hB : B' <= B) : OwnA T w B' v xs := by
 refine ⟨h.1, ?_⟩
 rcases h.2 with h | ⟨g, cap, cur, e, hg, rest⟩
 · exact .inl h
 · exact .inr ⟨g, cap, cur, e, Nat.le_trans hB hg, rest⟩
theorem infoAva2 : (Tryz.prog.info? 209).map (fun i => (i.zero, i.size, i.bytes)) = some (some (.agg #[.string ⟨#[]⟩, .string ⟨#[]⟩]), 2, 32) := by kernel_rfl
theorem avaC_take (os : List RdS.Pr) (j : Nat) : avaC os = avaC (os.take j) ++ avaC (os.drop j) := by rw [<- avaC_append, List.take_append_drop]
theorem take_cells {os : List RdS.Pr} {W : World} {g j : Nat} (h : ∀ j u, (avaC os)[j]? = some u -> W.cell? ⟨g, j, none⟩ = some u) {i : Nat} {u : Value} (hi : (avaC (os.take j))[i]? = some u) : W.cell? ((⟨g, 0, none⟩ : Addr).add i) = some u := by
 have hadd : (⟨g, 0, none⟩ : Addr).add i = ⟨g, i, none⟩ := by unfold Addr.add; split <;> simp_all
 rw [hadd]
 refine h i u ?_
 rw [avaC_take os j, List.getElem?_append_left (List.getElem?_eq_some_iff.1 hi).1]
 exact hi
theorem drop_cells {os : List RdS.Pr} {W : World} {g j : Nat} (hj : j <= os.length) (h : ∀ j u, (avaC os)[j]? = some u -> W.cell? ⟨g, j, none⟩ = some u) {ad : Addr} (ha : j < os.length -> ad = ⟨g, j * 2, none⟩) {i : Nat} {u : Value} (hi : (avaC (os.drop j))[i]? = some u) : W.cell? (ad.add i) = some u := by
 have hlt := (List.getElem?_eq_some_iff.1 hi).1
 rw [avaC_len, List.length_drop] at hlt
 rw [ha (by omega)]
 have hadd : (⟨g, j * 2, none⟩ : Addr).add i = ⟨g, j * 2 + i, none⟩ := by unfold Addr.add; split <;> simp_all
 rw [hadd]
 refine h (j * 2 + i) u ?_
 have hl : (avaC (os.take j)).length = j * 2 := by rw [avaC_len, List.length_take, Nat.min_eq_left hj]
 rw [avaC_take os j, List.getElem?_append_right (by omega), hl, Nat.add_sub_cancel_left]
 exact hi
theorem drop_len {os : List RdS.Pr} {k j : Nat} (h : os.length = k) : (os.drop j).length = k - j := by rw [List.length_drop, h]
theorem drop_at {g j k : Nat} (_h : j < k) : (⟨g, j * 2, none⟩ : Addr) = ⟨g, j * 2, none⟩ := rfl
def PartLoop (ps : List (List UInt8)) (w0 : World) (out i : Value) (wr : World) : Prop :=
 ∃ (k : Nat) (qs : List RdS.Pr), k <= ps.length /\ i = .int .i64 k /\ OwnA 209 wr w0.heap.size out (RdS.sortS qs) /\ qs.length = k /\ RdS.pairsS (ps.take k) = some qs /\ (∀ q ∈ qs, q.1.length <= 17 /\ q.2.length <= 1000000) /\ Below w0.heap.size w0 wr
theorem refpart_f (l : List UInt8) (hl : l.length <= 100000) (w : World) (hE : Env w) : Calls Tryz.prog 179 #[.string ⟨l.toArray⟩] w (PartRetF 209 l w) := by
 have hsp := refsplit_c l 43 (by omega) (by decide) w
 unfold SplitRet at hsp
 have hsl := RdS.splitE_len (sep := 43) l
 have hsm := RdS.splitE_small (sep := 43) l
 obtain ⟨ps, hps⟩ : ∃ ps, RdS.splitE 43 l = ps := ⟨_, rfl⟩
 rw [hps] at hsp hsl hsm
 have HPS := hZ9 hps
 have HSM := hZ9 hsm
 clear hps hsm
 go_enter Tryz.func179, Tryz.ntmps179
 go_wp2_with fail
 refine hsp.mono ?_
 rintro e w0 ⟨v, rfl, hv, hb0⟩
 obtain ⟨a, c, rfl, hc, hcase⟩ := hv
 generalize hn : ps.length = n at *
 have HN := hZ9 hn
 have hE0 := hE.below hb0
 by_cases hn3 : 3 < n
 · have h3 : (3 : Int) < (n : Int) := by omega
   have HNO : Hid (RdS.partS l = ([], 2)) := hZ9 (by
    unfold RdS.partS
    rw [HPS.out]
    cases hq : RdS.pairsS ps with
    | none => rfl
    | some qs =>
     simp only
     rw [if_neg]
     unfold RdS.formedS
     rw [RdS.sortS_length, RdS.pairsS_len hq, HN.out, decide_eq_false (show ¬ n <= 3 by omega)]; simp)
   clear hn
   go_wp2_with fail
   go_ret2
   exact PartRetF.none HNO.out hb0
 have h3 : decide ((3 : Int) < (n : Int)) = false := decide_eq_false (by omega)
 rcases hcase with rfl | ⟨g, o, rfl, hg, hcell⟩
 · obtain ⟨p0, ps0, hne⟩ := RdS.splitE_ne 43 l
   rw [HPS.out] at hne; cases hne
 have HCELL := hZ9 hcell
 clear hn hcell hsp
 go_wp2_with fail
 go_loopw [4, 18] (fun out i wr => PartLoop ps w0 out i wr) (fun _ i _ => n - (intOf i).toNat)
 case atStart => exact ⟨0, [], Nat.zero_le _, rfl, OwnA.empty _ _ _, rfl, rfl, by simp, Below.refl _ _⟩
 case round =>
  obtain ⟨k, qs, hk, rfl, hown, hql, hq, hqs, hb⟩ := hrel
  rw [HN.out] at hk
  have hsz := hb.size
  have hb00 : Below w.heap.size w wr := hb0.trans (hb.mono hb0.size)
  by_cases hlt : k < n
  · have hlt2 : k < ps.length := by rw [HN.out]; exact hlt
    have hcx : wr.cell? ⟨g, o + k, none⟩ = some (strV ps[k]) := (hb.cell (p := ⟨g, o + k, none⟩) hg).trans (HCELL.out k _ (List.getElem?_eq_getElem hlt2))
    have hpl := HSM.out ps[k] (List.getElem_mem hlt2)
    have HNO := hZ9 (partS_none HPS.out hlt2)
    have HYES := hZ9 (fun (a : RdS.Pr) => pairsS_step hlt2 hq (a := a))
    have HQS := hZ9 hqs
    have HLEN := hZ9 (fun (a : RdS.Pr) => RdS.pairS_len (p := ps[k]) (a := a))
    generalize ps[k] = p at *
    unfold strV at hcx
    clear hq hlt2 hqs
    have hpr := fun w => refpair_c p (by omega) w
    unfold PairRet at hpr
    have HOWN := hZ9 hown
    clear hown
    go_wp2_with fail
    refine (hpr _).mono ?_
    rintro e w1 ⟨t, v, b, rfl, hbt, hbf, hb1⟩
    cases b with
    | false =>
     have HN2 := hZ9 (HNO.out (hbf rfl))
     clear hbt hbf
     go_wp2_with fail
     go_ret2
     exact PartRetF.none HN2.out (((hb00.trans (hb1.mono hb00.size)).alloc (Nat.le_trans hb00.size hb1.size) _))
    | true =>
     have HY2 := hZ9 (HYES.out (t, v) (hbt rfl))
     have HL2 := hZ9 (HLEN.out (t, v) (hbt rfl))
     clear hbt hbf
     have hown1 := HOWN.out.call hb1
     have hbw1 : Below w0.heap.size w0 w1 := hb.trans (hb1.mono hsz)
     have hwh := Whole.made w1 209 #[.string ⟨t.toArray⟩, .string ⟨v.toArray⟩]
     have hbal : Below w1.heap.size w1 (w1.alloc (.cells #[.string ⟨t.toArray⟩, .string ⟨v.toArray⟩] 209)) := grow1 w1 _
     go_wp2_with fail
     generalize hw2 : (w1.alloc (.cells #[.string ⟨t.toArray⟩, .string ⟨v.toArray⟩] 209)) = w2 at *
     clear hw2
     have hown2 := OwnA.call hown1 hbal
     have hbw2 : Below w0.heap.size w0 w2 := hbw1.trans (hbal.mono hbw1.size)
     have hlen : (RdS.sortS qs).length = k := by rw [RdS.sortS_length, hql]
     have hy0 : w2.cell? ⟨w1.heap.size, 0, none⟩ = some (.string ⟨t.toArray⟩) := hwh.cell 0
     have hy1 : w2.cell? ⟨w1.heap.size, 1, none⟩ = some (.string ⟨v.toArray⟩) := hwh.cell 1
     have hl1 : w1.heap.size < w2.heap.size := hwh.lt
     have hsz2 := hbw2.size
     have HINS := hZ9 (fun n h0 h1 h2 => RdS.insS_at (t, v) (RdS.sortS qs) n h0 h1 h2)
     have HSN := hZ9 (RdS.sortS_snoc qs (t, v))
     have HFIN : Hid (∀ (B : Nat) (v' i : Value) (w' : World), OwnA 209 w' B v' (RdS.insS (t, v) (RdS.sortS qs)) -> w0.heap.size <= B -> i = .int .i64 ((k + 1 : Nat) : Int) -> Below w0.heap.size w0 w' -> PartLoop ps w0 v' i w') := hZ9 (fun B v' i w' h1 h2 hi h3 => by
      refine ⟨k + 1, qs ++ [(t, v)], by rw [HN.out]; omega, hi, ?_, by simp [hql], HY2.out, ?_, h3⟩
      · rw [HSN.out]; exact OwnA.mono h1 h2
      · intro q hq
        rcases List.mem_append.1 hq with hq | hq
        · exact HQS.out q hq
        · have := List.mem_singleton.1 hq; subst this
          have h := HL2.out
          exact ⟨h.1, Nat.le_trans h.2 (by omega)⟩)
     clear hown1 hwh HY2 HYES HNO HLEN HL2 HSN HQS HOWN hpr
     generalize RdS.sortS qs = os at *
     obtain ⟨i0, hi, hz0, hz1, hz2⟩ := info_parts infoAva2
     have HI := hZ9 hi
     clear hi
     have hown3 := hown2
     rcases hown3.2 with ⟨rfl, hn0⟩ | ⟨g2, cap, cur, rfl, hg2, hh2, hcap, _⟩
     · have hos : os = [] := List.eq_nil_of_length_eq_zero hn0
       subst hos
       have HI0 := hZ9 (HINS.out 0 (Nat.le_refl _) (fun j h _ => by simp at h) (fun h => by simp at h))
       clear hown2 hown3 hn0
       refine wp_loop_rounds 1 ?_
       rw [rounds_succ]
       go_wp2_with fail
       go_quiet (fail)
       generalize hw3 : w2.drewN nq = w3 at *
       have hb3 : Below w2.heap.size w2 w3 := by rw [<- hw3]; exact below_drewN w2 nq
       have hz0' : w3.cell? ⟨w1.heap.size, 0, none⟩ = some (.string ⟨t.toArray⟩) := keepC hy0 hb3
       have hz1' : w3.cell? ⟨w1.heap.size, 1, none⟩ = some (.string ⟨v.toArray⟩) := keepC hy1 hb3
       have hbw3 : Below w0.heap.size w0 w3 := hbw2.trans (hb3.mono hsz2)
       have hsz3 := hbw3.size
       clear hw3 hy0 hy1 hb3
       go_wp2_with (at_builtin; first | refine wpList_append_own_none (by rfl) _ _ 175 (by rfl) w3.heap.size 209 i0 2 Tryz.underlying175 HI.out _ 0 [] (by rfl) (World.ownsRow_nil _ _ _ 2) (by rfl) ?_ | refine push_ava 209 175 Tryz.underlying175 HI.out hz0 hz1 hz2 (by rfl) (by rfl) _ _ (by rfl) w3.heap.size _ [] (by rfl) (OwnA.empty _ _ _) w3.heap.size (by rfl) (t, v) ?e1 ?e2 ?e3 ?e4 ?_)
       case e1 => simp [go_sem, strV]
       case e2 => simp [go_sem, strV]
       case e3 => simp
       case e4 => simp
       intro v' w4 hown4 hb4
       go_wp2_with (at_builtin; refine wpList_append_own_none (by rfl) _ _ 175 (by rfl) w3.heap.size 209 i0 2 Tryz.underlying175 HI.out _ 1 _ (by rfl) hown4 (by rfl) ?_)
       go_wp2_with fail
       go_roundw
       case rel => exact HFIN.out w3.heap.size _ _ _ (by rw [HI0.out]; exact hown4) hsz3 (by go_num) ((hbw3.alloc hsz3 _).trans (hb4.mono hsz3))
       case measure => simp [intOf]; omega
     · have hgl : g2 < w2.heap.size := (Array.getElem?_eq_some_iff.1 hh2).1
       have hcells : ∀ j u, (avaC os)[j]? = some u -> w2.cell? ⟨g2, j, none⟩ = some u := fun j u hj => by
        have := World.ownsRow.cells hown3 (g := g2) rfl j u hj
        have hadd : (⟨g2, 0, none⟩ : Addr).add j = ⟨g2, j, none⟩ := by unfold Addr.add; split <;> simp_all
        rwa [hadd] at this
       have HC := hZ9 hcells
       rw [hlen] at hcap
       clear hown2 hown3 hh2 hcells
       simp only [hlen]
       go_loopg [9] k (fun g1 vn wr2 => ∃ (j q : Nat), vn = .int .i64 j /\ j <= k /\ k - j <= g1 /\ Hid (∀ i (h : i < os.length), i < j -> Op.bytesLess os[i].1 t = true) /\ wr2 = w2.drewN q)
       case atStart => exact ⟨0, 0, rfl, Nat.zero_le _, by omega, hZ9 (fun i h hi => by omega), rfl⟩
       case round =>
        obtain ⟨j, q, rfl, hjk, hg1, HL, rfl⟩ := hrel
        have hbq : Below w2.heap.size w2 (w2.drewN q) := below_drewN w2 q
        have hCq : Hid (∀ j u, (avaC os)[j]? = some u -> (w2.drewN q).cell? ⟨g2, j, none⟩ = some u) := hZ9 (fun j u hj => HC.out j u hj)
        have hz0' : (w2.drewN q).cell? ⟨w1.heap.size, 0, none⟩ = some (.string ⟨t.toArray⟩) := hy0
        have hz1' : (w2.drewN q).cell? ⟨w1.heap.size, 1, none⟩ = some (.string ⟨v.toArray⟩) := hy1
        have HSTOP : Hid ((∀ h : j < os.length, Op.bytesLess os[j].1 t = false) -> RdS.insS (t, v) os = os.take j ++ [(t, v)] ++ os.drop j) := hZ9 (fun h => HINS.out j (by rw [hlen]; exact hjk) HL.out h)
        by_cases hjlt : j < k
        · have hjl : j < os.length := by rw [hlen]; exact hjlt
          have hcj := HC.out (j * 2) (strV os[j].1) (avaC_at os j os[j] (List.getElem?_eq_getElem hjl)).1
          have hjz : (j : Int) < (k : Int) := by omega
          unfold strV at hcj
          cases hles : Op.bytesLess os[j].1 t with
          | true =>
           have HLES := hZ9 hles
           generalize hpj : os[j].1 = pj at *
           have HPJ := hZ9 hpj
           clear hpj
           go_wp2_with fail
           go_quiet (fail)
           go_wp2_with fail
           go_roundg (k - (j + 1))
           case measure => omega
           case rel => exact ⟨j + 1, q + nq, by go_num, by omega, Nat.le_refl _, hZ9 (fun i h hi => by
            rcases Nat.lt_or_ge i j with h1 | h1
            · exact HL.out i h h1
            · have : i = j := by omega
              subst this; rw [HPJ.out]; exact HLES.out), rfl⟩
          | false =>
           have HST : Hid (∀ h : j < os.length, Op.bytesLess os[j].1 t = false) := hZ9 (fun _ => hles)
           generalize os[j].1 = pj at *
           go_wp2_with fail
           go_quiet (fail)
           have hb3 : Below w2.heap.size w2 ((w2.drewN q).drewN nq) := below_trans hbq (below_drewN _ nq)
           have HC3 : Hid (∀ j u, (avaC os)[j]? = some u -> ((w2.drewN q).drewN nq).cell? ⟨g2, j, none⟩ = some u) := hZ9 (fun j u hj => HC.out j u hj)
           have hx0 : ((w2.drewN q).drewN nq).cell? ⟨w1.heap.size, 0, none⟩ = some (.string ⟨t.toArray⟩) := hy0
           have hx1 : ((w2.drewN q).drewN nq).cell? ⟨w1.heap.size, 1, none⟩ = some (.string ⟨v.toArray⟩) := hy1
           generalize (w2.drewN q).drewN nq = w3 at *
           have hl3 : w1.heap.size < w3.heap.size := Nat.lt_of_lt_of_le hl1 hb3.size
           have hg3 : g2 < w3.heap.size := Nat.lt_of_lt_of_le hgl hb3.size
           have hbw3 : Below w0.heap.size w0 w3 := hbw2.trans (hb3.mono hsz2)
           have hsz3 := hbw3.size
           have HINSX := hZ9 (HSTOP.out HST.out)
           go_wp2_with (at_builtin; refine push_avas 209 175 Tryz.underlying175 HI.out hz0 hz1 hz2 (by rfl) (by rfl) _ _ (by rfl) w3.heap.size _ [] (by rfl) (OwnA.empty _ _ _) ⟨g2, 0, none⟩ j _ (by rfl) (os.take j) (by rw [List.length_take]; omega) (fun i u hi => take_cells HC3.out hi) (by simp; omega) (Nat.le_refl _) ?_)
           intro v4 w4 hown4 hb4 hgr4
           obtain ⟨a4, c4, rfl⟩ := hown4.form
           have hz4 : w4.cell? ⟨w1.heap.size, 0, none⟩ = some (.string ⟨t.toArray⟩) := keepC hx0 hb4
           have hz5 : w4.cell? ⟨w1.heap.size, 1, none⟩ = some (.string ⟨v.toArray⟩) := keepC hx1 hb4
           have hsz4 := hb4.size
           go_wp2_with (at_builtin; refine push_ava 209 175 Tryz.underlying175 HI.out hz0 hz1 hz2 (by rfl) (by rfl) _ _ (by rfl) w3.heap.size _ (os.take j) (by rfl) (hown4.alloc _) w4.heap.size (by rfl) (t, v) (by simp [go_sem, strV]) (by simp [go_sem, strV]) (by rw [List.length_take]; omega) (by simp; omega) ?_)
           intro v5 w5 hown5 hb5
           obtain ⟨a5, c5, rfl⟩ := hown5.form
           have hb45 : Below w3.heap.size w3 w5 := (hb4.alloc hsz4 _).trans hb5
           have hsz5 := hb45.size
           have HC5 : Hid (∀ j u, (avaC os)[j]? = some u -> w5.cell? ⟨g2, j, none⟩ = some u) := hZ9 (fun j u hj => (hb45.cell (p := ⟨g2, j, none⟩) hg3).trans (HC3.out j u hj))
           have hjl5 : j <= os.length := by omega
           have hlen5 : (os.take j).length + 1 <= 1000 := by rw [List.length_take]; omega
           go_wp2_with (at_builtin; refine push_avas 209 175 Tryz.underlying175 HI.out hz0 hz1 hz2 (by rfl) (by rfl) _ _ (by rfl) w3.heap.size _ (os.take j ++ [(t, v)]) (by rfl) hown5 _ _ _ (by rfl) (os.drop j) (drop_len hlen) (fun i u hi => drop_cells hjl5 HC5.out (fun h => drop_at (hlen ▸ h)) hi) ?d3 ?d4 ?_)
           case d3 => rw [List.length_append, List.length_singleton]; omega
           case d4 => omega
           intro v6 w6 hown6 hb6 hgr6
           go_wp2_with fail
           go_roundw
           case rel => exact HFIN.out w3.heap.size _ _ _ (by rw [HINSX.out, List.append_assoc]; exact hown6) hsz3 (by go_num) (hbw3.trans ((hb45.trans hb6).mono hsz3))
           case measure => simp [intOf]; omega
        · have hjz : ¬ (j : Int) < (k : Int) := by omega
          have HST : Hid (∀ h : j < os.length, Op.bytesLess os[j].1 t = false) := hZ9 (fun h => by rw [hlen] at h; omega)
          rcases Nat.lt_or_ge j cap with hcj | hcj
          all_goals
           go_wp2_with fail
           go_quiet (fail)
           have hb3 : Below w2.heap.size w2 ((w2.drewN q).drewN nq) := below_trans hbq (below_drewN _ nq)
           have HC3 : Hid (∀ j u, (avaC os)[j]? = some u -> ((w2.drewN q).drewN nq).cell? ⟨g2, j, none⟩ = some u) := hZ9 (fun j u hj => HC.out j u hj)
           have hx0 : ((w2.drewN q).drewN nq).cell? ⟨w1.heap.size, 0, none⟩ = some (.string ⟨t.toArray⟩) := hy0
           have hx1 : ((w2.drewN q).drewN nq).cell? ⟨w1.heap.size, 1, none⟩ = some (.string ⟨v.toArray⟩) := hy1
           generalize (w2.drewN q).drewN nq = w3 at *
           have hl3 : w1.heap.size < w3.heap.size := Nat.lt_of_lt_of_le hl1 hb3.size
           have hg3 : g2 < w3.heap.size := Nat.lt_of_lt_of_le hgl hb3.size
           have hbw3 : Below w0.heap.size w0 w3 := hbw2.trans (hb3.mono hsz2)
           have hsz3 := hbw3.size
           have HINSX := hZ9 (HSTOP.out HST.out)
           go_wp2_with (at_builtin; refine push_avas 209 175 Tryz.underlying175 HI.out hz0 hz1 hz2 (by rfl) (by rfl) _ _ (by rfl) w3.heap.size _ [] (by rfl) (OwnA.empty _ _ _) ⟨g2, 0, none⟩ j _ (by rfl) (os.take j) (by rw [List.length_take]; omega) (fun i u hi => take_cells HC3.out hi) (by simp; omega) (Nat.le_refl _) ?_)
           intro v4 w4 hown4 hb4 hgr4
           obtain ⟨a4, c4, rfl⟩ := hown4.form
           have hz4 : w4.cell? ⟨w1.heap.size, 0, none⟩ = some (.string ⟨t.toArray⟩) := keepC hx0 hb4
           have hz5 : w4.cell? ⟨w1.heap.size, 1, none⟩ = some (.string ⟨v.toArray⟩) := keepC hx1 hb4
           have hsz4 := hb4.size
           go_wp2_with (at_builtin; refine push_ava 209 175 Tryz.underlying175 HI.out hz0 hz1 hz2 (by rfl) (by rfl) _ _ (by rfl) w3.heap.size _ (os.take j) (by rfl) (hown4.alloc _) w4.heap.size (by rfl) (t, v) (by simp [go_sem, strV]) (by simp [go_sem, strV]) (by rw [List.length_take]; omega) (by simp; omega) ?_)
           intro v5 w5 hown5 hb5
           obtain ⟨a5, c5, rfl⟩ := hown5.form
           have hb45 : Below w3.heap.size w3 w5 := (hb4.alloc hsz4 _).trans hb5
           have hsz5 := hb45.size
           have HC5 : Hid (∀ j u, (avaC os)[j]? = some u -> w5.cell? ⟨g2, j, none⟩ = some u) := hZ9 (fun j u hj => (hb45.cell (p := ⟨g2, j, none⟩) hg3).trans (HC3.out j u hj))
           have hjl5 : j <= os.length := by omega
           have hnl5 : ¬ j < os.length := by omega
           have hlen5 : (os.take j).length + 1 <= 1000 := by rw [List.length_take]; omega
           go_wp2_with (at_builtin; refine push_avas 209 175 Tryz.underlying175 HI.out hz0 hz1 hz2 (by rfl) (by rfl) _ _ (by rfl) w3.heap.size _ (os.take j ++ [(t, v)]) (by rfl) hown5 _ _ _ (by rfl) (os.drop j) (drop_len hlen) (fun i u hi => drop_cells hjl5 HC5.out (fun h => absurd h hnl5) hi) ?d3 ?d4 ?_)
           case d3 => rw [List.length_append, List.length_singleton]; omega
           case d4 => omega
           intro v6 w6 hown6 hb6 hgr6
           go_wp2_with fail
           go_roundw
           case rel => exact HFIN.out w3.heap.size _ _ _ (by rw [HINSX.out, List.append_assoc]; exact hown6) hsz3 (by go_num) (hbw3.trans ((hb45.trans hb6).mono hsz3))
           case measure => simp [intOf]; omega
  · have hkn : k = n := by omega
    subst hkn
    have hall : ps.take k = ps := List.take_of_length_le (by rw [HN.out]; omega)
    rw [hall] at hq
    have HPT : Hid (RdS.partS l = if RdS.formedS (RdS.sortS qs) then (RdS.sortS qs, 0) else ([], 2)) := hZ9 (by unfold RdS.partS; rw [HPS.out, hq])
    have hav := hown.avas
    have hfit : PairsFit (RdS.sortS qs) := fun q hq => by
     have := hqs q ((RdS.sortS_perm qs).mem_iff.1 hq)
     omega
    have hfm := refformed_any _ _ wr hav hfit (hE.below hb00)
    unfold FmRet at hfm
    obtain ⟨a, cp, rfl⟩ := hown.form
    have HFR := hZ9 (fun m => Tag.own hown m)
    have HAV := hZ9 hav
    clear hall hq hown hqs hfit hav
    cases hfd : RdS.formedS (RdS.sortS qs) with
    | true =>
     have HFD := hZ9 hfd
     rw [hfd] at hfm
     clear hfd
     go_wp2_with fail
     refine hfm.mono ?_; rintro e w2 ⟨rfl, hb3⟩
     go_wp2_with fail
     go_ret2
     have e1 : RdS.partS l = (RdS.sortS qs, 0) := by rw [HPT.out, if_pos HFD.out]
     exact ⟨_, by rw [e1]; rfl, by rw [e1]; exact HAV.out.call hb3 (Nat.le_refl _), hb00.trans (hb3.mono hb00.size), (HFR.out _).call hb3⟩
    | false =>
     have HFD := hZ9 hfd
     rw [hfd] at hfm
     clear hfd
     go_wp2_with fail
     refine hfm.mono ?_; rintro e w2 ⟨rfl, hb3⟩
     go_wp2_with fail
     go_ret2
     exact PartRetF.none (by rw [HPT.out, if_neg (by rw [HFD.out]; decide)]) (hb00.trans (hb3.mono hb00.size))
end
end Go.Proofs.YtjmfknfponjgkaaGreatDoor
