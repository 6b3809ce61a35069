/- The walks of strings.Join at a comma, of the program's 'fit' and of the document's 'joined'. Conditions: as stated. -/
import Derived.Test.YtjmfknfponjgkaaGreatDoorJRdo
import Derived.Test.YtjmfknfponjgkaaGreatDoorJRuS
import Derived.Test.YtjmfknfponjgkaaGreatDoorJDna
import Derived.Test.YtjmfknfponjgkaaGreatDoorJRdu
import Derived.Test.YtjmfknfponjgkaaGreatDoorJMem
set_option maxRecDepth 100000
set_option maxHeartbeats 4000000
namespace Go.Proofs.YtjmfknfponjgkaaGreatDoor
section
open Go.RowKit
namespace DnS
open RdS
theorem join_snoc : ∀ (l : List (List UInt8)) (x : List UInt8), joinS (l ++ [x]) = if l = [] then x else joinS l ++ [44] ++ x
 | [], x => by rw [if_pos rfl]; exact Lib.join_one x [44]
 | [a], x => by
  rw [if_neg (by simp)]
  show Lib.join (a :: x :: []) [44] = Lib.join [a] [44] ++ [44] ++ x
  rw [RuS.join_cons_cons, Lib.join_one, Lib.join_one]
 | a :: b :: l, x => by
  have ih := join_snoc (b :: l) x
  rw [if_neg (by simp)] at ih ⊢
  unfold joinS at ih ⊢
  rw [List.cons_append, List.cons_append, RuS.join_cons_cons, RuS.join_cons_cons, <- List.cons_append, ih]
  simp
theorem join_take {ts : List (List UInt8)} {k : Nat} (h : k < ts.length) : joinS (ts.take (k + 1)) = if k = 0 then ts[k] else joinS (ts.take k) ++ [44] ++ ts[k] := by
 rw [List.take_succ_eq_append_getElem h, join_snoc]
 by_cases hk : k = 0
 · subst hk; simp
 · rw [if_neg hk, if_neg]
   intro h0
   have := congrArg List.length h0
   rw [List.length_take, List.length_nil, Nat.min_eq_left (by omega)] at this
   exact hk this
theorem join_len {M : Nat} : ∀ (ts : List (List UInt8)), (∀ t ∈ ts, t.length <= M) -> (joinS ts).length <= ts.length * (M + 1)
 | [], _ => by simp [joinS, Lib.join, List.intercalate]
 | [a], h => by
  unfold joinS
  rw [Lib.join_one]
  have := h a (List.mem_singleton.2 rfl)
  simp; omega
 | a :: b :: l, h => by
  have ih := join_len (b :: l) (fun t ht => h t (List.mem_cons_of_mem _ ht))
  have := h a (List.mem_cons_self ..)
  unfold joinS at ih ⊢
  rw [RuS.join_cons_cons, List.length_append, List.length_append, List.length_singleton]
  have e : (a :: b :: l).length * (M + 1) = (b :: l).length * (M + 1) + (M + 1) := by rw [List.length_cons (a := a), Nat.succ_mul]
  omega
theorem join_take_len {ts : List (List UInt8)} {M : Nat} (h : ∀ t ∈ ts, t.length <= M) {n : Nat} (hn : ts.length <= n) (k : Nat) : (joinS (ts.take k)).length <= n * (M + 1) := by
 have h1 := join_len (ts.take k) (fun t ht => h t (List.mem_of_mem_take ht))
 refine Nat.le_trans h1 (Nat.mul_le_mul_right _ ?_)
 rw [List.length_take]; omega
end DnS
theorem fit_small {xs : List RdS.Pr} (h : RdS.formedS xs = true) : PairsFit xs := fun p hp => by
 have := (RdS.formed_small h).2 p hp
 omega
theorem join_c (v : Value) (ts : List (List UInt8)) (w : World) (h : StrsIn w v ts) (hn : ts.length <= 1000000) (hl : (DnS.joinS ts).length <= 1000000000) : Calls Tryz.prog 100 #[v, .string ⟨#[44]⟩] w fun e w' => e = .returned (.string ⟨(DnS.joinS ts).toArray⟩) /\ Below w.heap.size w w' := by
 obtain ⟨a, c, rfl, hc, hcase⟩ := h
 by_cases h0 : ts = []
 · subst h0
   refine (Tryz.strings_Join_none a c ⟨#[44]⟩ w).mono ?_
   rintro e w' ⟨rfl, rfl⟩
   exact ⟨by simp [DnS.joinS, Lib.join, List.intercalate], Below.refl _ _⟩
 · rcases hcase with hcase | ⟨g, o, rfl, hg, hcell⟩
   · exact absurd hcase h0
   have hm : (ts.map (fun t : List UInt8 => (⟨t.toArray⟩ : ByteArray))).map (·.data.toList) = ts := by
    rw [List.map_map]
    conv => rhs; rw [<- List.map_id ts]
    exact List.map_congr_left fun t _ => rfl
   have hj := Tryz.strings_Join g o c (ts.map (fun t : List UInt8 => (⟨t.toArray⟩ : ByteArray))) ⟨#[44]⟩ w (fun j x hx => by
    rw [List.getElem?_map] at hx
    obtain ⟨t, ht, rfl⟩ := Option.map_eq_some_iff.1 hx
    exact hcell j t ht) hg (by rw [List.length_map]; omega) (by rw [List.length_map]; exact hc) (by
    rw [hm]
    exact Nat.le_trans hl (by decide))
   rw [hm, List.length_map] at hj
   exact hj
theorem fit_c (v : Value) (ts : List (List UInt8)) (w : World) (h : StrsIn w v ts) (hn : ts.length <= 1000000) (hl : (DnS.joinS ts).length <= 1000000000) : Calls Tryz.prog 132 #[v] w fun e w' => e = .returned (.tuple #[.string ⟨(DnS.fitS ts).1.toArray⟩, .int .i64 (DnS.fitS ts).2]) /\ Below w.heap.size w w' := by
 have hj := join_c v ts w h hn hl
 obtain ⟨a, c, rfl, hc, hcase⟩ := h
 clear hcase
 have HF : Hid (DnS.fitS ts = if 12 < ts.length \/ 1000 < (DnS.joinS ts).length then ([], 4) else (DnS.joinS ts, 0)) := hZ9 rfl
 generalize DnS.joinS ts = J at *
 generalize DnS.fitS ts = F at *
 generalize ts.length = n at *
 by_cases h12 : 12 < n
 · have hz : (12 : Int) < (n : Int) := by omega
   go_enter Tryz.func132, Tryz.ntmps132
   go_wp2_with fail
   refine hj.mono ?_; rintro e w1 ⟨rfl, hb⟩
   go_wp2_with fail
   go_ret2
   exact ⟨by rw [HF.out, if_pos (.inl h12)]; rfl, hb⟩
 · have hz : decide ((12 : Int) < (n : Int)) = false := decide_eq_false (by omega)
   by_cases h1000 : 1000 < J.length
   · have hz2 : (1000 : Int) < (J.length : Int) := by omega
     go_enter Tryz.func132, Tryz.ntmps132
     go_wp2_with fail
     refine hj.mono ?_; rintro e w1 ⟨rfl, hb⟩
     go_wp2_with fail
     go_ret2
     exact ⟨by rw [HF.out, if_pos (.inr h1000)]; rfl, hb⟩
   · have hz2 : decide ((1000 : Int) < (J.length : Int)) = false := decide_eq_false (by omega)
     go_enter Tryz.func132, Tryz.ntmps132
     go_wp2_with fail
     refine hj.mono ?_; rintro e w1 ⟨rfl, hb⟩
     go_wp2_with fail
     go_ret2
     exact ⟨by rw [HF.out, if_neg (fun h => h.elim h12 h1000)]; rfl, hb⟩
theorem joined_c (v : Value) (ts : List (List UInt8)) (w : World) (h : StrsIn w v ts) (hn : ts.length <= 100) (hl : ∀ t ∈ ts, t.length <= 3000) : Calls Tryz.prog 114 #[v] w fun e w' => e = .returned (.string ⟨(DnS.joinS ts).toArray⟩) /\ w = w' := by
 obtain ⟨a, c, rfl, hc, hcase⟩ := h
 have HJL := hZ9 (DnS.join_take_len hl hn)
 have HL := hZ9 hl
 clear hl
 generalize hln : ts.length = n at *
 have HN := hZ9 hln
 clear hln
 have HC : Hid (∀ k (h : k < ts.length), ∃ g o, a = some ⟨g, o, none⟩ /\ g < w.heap.size /\ w.cell? ⟨g, o + k, none⟩ = some (strV ts[k])) := hZ9 (fun k hk => by
  rcases hcase with rfl | ⟨g, o, rfl, hg, hcell⟩
  · simp at hk
  · exact ⟨g, o, rfl, hg, hcell k _ (List.getElem?_eq_getElem hk)⟩)
 clear hcase
 go_enter Tryz.func114, Tryz.ntmps114
 go_wp2_with fail
 go_loop [3, 7] (fun s i => ∃ k : Nat, k <= n /\ i = .int .i64 k /\ s = .string ⟨(DnS.joinS (ts.take k)).toArray⟩) (fun _ i => n - (intOf i).toNat)
 case atStart => exact ⟨0, Nat.zero_le _, rfl, by simp [DnS.joinS, Lib.join, List.intercalate]⟩
 case round =>
  obtain ⟨k, hk, rfl, rfl⟩ := hrel
  by_cases hlt : k < n
  · have hlt2 : k < ts.length := by rw [HN.out]; exact hlt
    obtain ⟨g, o, rfl, hg, hcx⟩ := HC.out k hlt2
    have HJ2 := hZ9 (DnS.join_take hlt2)
    have HACC : Hid (k = 0 -> DnS.joinS (ts.take k) = []) := hZ9 (fun h => by subst h; simp [DnS.joinS, Lib.join, List.intercalate])
    have hjl := HJL.out k
    have hpl := HL.out ts[k] (List.getElem_mem hlt2)
    generalize ts[k] = p at *
    unfold strV at hcx
    generalize DnS.joinS (ts.take k) = acc at *
    clear hlt2
    by_cases hk0 : k = 0
    · have hkz : decide ((0 : Int) < (k : Int)) = false := decide_eq_false (by omega)
      have hkz2 : decide (0 < k) = false := decide_eq_false (by omega)
      have HJ3 : Hid (DnS.joinS (ts.take (k + 1)) = acc ++ p) := hZ9 (by
       rw [HJ2.out, if_pos hk0, HACC.out hk0]; rfl)
      have ha := cat_lit acc p (by omega) (by omega)
      clear hk0
      go_wp2_with fail
      go_round
      case rel => exact ⟨k + 1, by omega, by go_num, by rw [HJ3.out]⟩
      case measure => simp [intOf]; omega
    · have hkz : (0 : Int) < (k : Int) := by omega
      have hkz2 : 0 < k := by omega
      have HJ3 : Hid (DnS.joinS (ts.take (k + 1)) = acc ++ [44] ++ p) := hZ9 (by
       rw [HJ2.out, if_neg hk0])
      have ha := cat_lit acc [44] (by omega) (by decide)
      have hy1l : (acc ++ [44]).length <= 2000000 := by rw [List.length_append, List.length_singleton]; omega
      have hap := mk_app acc [44]
      obtain ⟨y1, hy1⟩ : ∃ y1, y1 = acc ++ [44] := ⟨_, rfl⟩
      rw [<- hy1] at ha hy1l HJ3 hap
      have ha2 := cat_lit y1 p hy1l (by omega)
      clear hk0 hy1
      go_wp2_with fail
      go_round
      case rel => exact ⟨k + 1, by omega, by go_num, by rw [HJ3.out]⟩
      case measure => simp [intOf]; omega
  · have hkn : k = n := by omega
    subst hkn
    have HALL : Hid (ts.take k = ts) := hZ9 (List.take_of_length_le (by rw [HN.out]; omega))
    go_wp2_with fail
    go_ret
    exact ⟨by rw [HALL.out]; rfl, rfl⟩
end
section
open Go.RowKit
def PartsRet (l : List UInt8) (w : World) (e : Ending) (w' : World) : Prop := ∃ v, e = .returned (.tuple #[v, .int .i64 (DnS.textsS l).2]) /\ Own w' w.heap.size v (DnS.textsS l).1 /\ Below w.heap.size w w'
theorem PartsRet.none {l : List UInt8} {w w' : World} {e : Int} (h : DnS.textsS l = ([], e)) (hb : Below w.heap.size w w') : PartsRet l w (.returned (.tuple #[.slice none 0 0, .int .i64 e])) w' := by
 refine ⟨.slice Option.none 0 0, ?_, ?_, hb⟩
 · rw [h]
 · rw [h]; exact Own.empty w' _
def PartsLoop (ls : List (List RdS.Pr)) (w0 : World) (out i : Value) (wr : World) : Prop :=
 ∃ k : Nat, k <= ls.length /\ i = .int .i64 k /\ Own wr w0.heap.size out ((ls.take k).map DnS.ntext) /\ Below w0.heap.size w0 wr
namespace DnS
theorem name_bad {s : List UInt8} (h : (nameS s).2 ≠ 0) : (nameS s).1 = [] := by
 unfold nameS at h ⊢
 split
 · rfl
 · rename_i h1
   rw [if_neg h1] at h
   split
   · rfl
   · rename_i h2
     rw [if_neg h2] at h
     split
     · rfl
     · rename_i h3
       rw [if_neg h3] at h
       cases hp : partsS (RdS.splitE 44 s) with
       | none => rfl
       | some l => rw [hp] at h; exact absurd rfl h
theorem texts_no {s : List UInt8} {ls : List (List RdS.Pr)} {e : Int} (h : nameS s = (ls, e)) (he : e ≠ 0) : textsS s = ([], e) := by
 unfold textsS; rw [h, if_neg he]
theorem texts_long {s : List UInt8} {ls : List (List RdS.Pr)} (h : nameS s = (ls, 0)) (hl : 1000 < (joinS (ls.map ntext)).length) : textsS s = ([], 4) := by
 unfold textsS; rw [h, if_pos rfl, if_pos hl]
theorem texts_yes {s : List UInt8} {ls : List (List RdS.Pr)} (h : nameS s = (ls, 0)) (hl : ¬ 1000 < (joinS (ls.map ntext)).length) : textsS s = (ls.map ntext, 0) := by
 unfold textsS; rw [h, if_pos rfl, if_neg hl]
theorem texts_small {ls : List (List RdS.Pr)} (hf : ∀ q ∈ ls, RdS.formedS q = true) : ∀ t ∈ ls.map ntext, t.length <= 3000 := fun t ht => by
 obtain ⟨q, hq, rfl⟩ := List.mem_map.1 ht
 exact ntext_small (hf q hq)
theorem map_take {ls : List (List RdS.Pr)} {k : Nat} (h : k < ls.length) : (ls.take (k + 1)).map ntext = (ls.take k).map ntext ++ [ntext ls[k]] := by
 rw [List.take_succ_eq_append_getElem h, List.map_append]; rfl
theorem join_small {ls : List (List RdS.Pr)} (hl : ls.length <= 12) (hf : ∀ q ∈ ls, RdS.formedS q = true) : (joinS (ls.map ntext)).length <= 100000 := by
 have h := join_len (ls.map ntext) (texts_small hf)
 rw [List.length_map] at h
 have : ls.length * (3000 + 1) <= 12 * 3001 := Nat.mul_le_mul_right _ hl
 omega
end DnS
theorem refparts_c (l : List UInt8) (hl : l.length <= 1000000) (w : World) (hE : Env w) : Calls Tryz.prog 113 #[.string ⟨l.toArray⟩] w (PartsRet l w) := by
 have hnm := refname_c l hl w hE
 unfold NameRet at hnm
 obtain ⟨P, hP⟩ : ∃ P, DnS.nameS l = P := ⟨_, rfl⟩
 obtain ⟨ls, e0⟩ := P
 rw [hP] at hnm
 simp only at hnm
 by_cases he : e0 = 0
 · subst he
   have hfm := DnS.nameS_formed hP
   have HFM := hZ9 hfm.2.1
   have hn12 : ls.length <= 12 := hfm.1
   have HJS := hZ9 (DnS.join_small hfm.1 hfm.2.1)
   have HTS := hZ9 (DnS.texts_small hfm.2.1)
   have HLONG := hZ9 (DnS.texts_long hP)
   have HYES := hZ9 (DnS.texts_yes hP)
   clear hfm hP
   go_enter Tryz.func113, Tryz.ntmps113
   go_wp2_with fail
   refine hnm.mono ?_
   rintro e w0 ⟨v, rfl, hv, hb0⟩
   obtain ⟨a, c, rfl, hc, hcase⟩ := hv.at
   have HC : Hid (∀ k (h : k < ls.length), ∃ g o, a = some ⟨g, o, none⟩ /\ g < w0.heap.size /\ ∃ u, w0.cell? ⟨g, o + k, none⟩ = some u /\ AvasIn w0 u ls[k]) := hZ9 (fun k hk => by
    rcases hcase with rfl | ⟨g, o, rfl, hg, hcell⟩
    · simp at hk
    · exact ⟨g, o, rfl, hg, hcell k _ (List.getElem?_eq_getElem hk)⟩)
   have HFM2 := hZ9 (fun k (h : k < ls.length) => HFM.out ls[k] (List.getElem_mem h))
   clear hcase hv hnm
   generalize hln : ls.length = n at hn12 hc ⊢
   have HN := hZ9 hln
   clear hln
   go_wp2_with fail
   go_loopw [6, 22] (fun out i wr => PartsLoop ls w0 out i wr) (fun _ i _ => n - (intOf i).toNat)
   case atStart => exact ⟨0, Nat.zero_le _, rfl, Own.empty _ _, Below.refl _ _⟩
   case round =>
    obtain ⟨k, hk, rfl, hown, hb⟩ := hrel
    rw [HN.out] at hk
    have hsz := hb.size
    have hb00 : Below w.heap.size w wr := hb0.trans (hb.mono hb0.size)
    have hEr := hE.below hb00
    have HOWN := hZ9 hown
    clear hown
    by_cases hlt : k < n
    · have hlt2 : k < ls.length := by rw [HN.out]; exact hlt
      obtain ⟨g, o, rfl, hg, u, hcx, hav⟩ := HC.out k hlt2
      replace hcx : wr.cell? ⟨g, o + k, none⟩ = some u := (hb.cell (p := ⟨g, o + k, none⟩) hg).trans hcx
      replace hav : AvasIn wr u ls[k] := hav.call hb (Nat.le_refl _)
      have HMT := hZ9 (DnS.map_take hlt2)
      have hq := HFM2.out k hlt2
      generalize ls[k] = q at *
      obtain ⟨a1, n1, c1, rfl⟩ : ∃ a1 n1 c1, u = .slice a1 n1 c1 := by
       obtain ⟨a1, c1, e, _⟩ := hav
       exact ⟨a1, _, c1, e⟩
      have hnp := refnormpart_c _ q wr hav (fit_small hq) hEr
      unfold NormRetP at hnp
      rw [DnS.normP_formed hq] at hnp
      have hpr := fun v w h hE => refprint_c v (RdS.normL q) w h (fit_small (RdS.norm_formed hq).1) hE
      unfold PrintRet at hpr
      rw [DnS.printS_norm hq] at hpr
      simp only at hnp hpr
      generalize RdS.normL q = qn at *
      generalize DnS.ntext q = t at *
      clear hlt2 hav hq
      go_wp2_with fail
      refine hnp.mono ?_; rintro e w1 ⟨v1, rfl, hav1, hb1⟩
      obtain ⟨a2, n2, c2, rfl⟩ : ∃ a2 n2 c2, v1 = .slice a2 n2 c2 := by
       obtain ⟨a1, c1, e, _⟩ := hav1
       exact ⟨a1, _, c1, e⟩
      go_wp2_with fail
      refine (hpr _ _ hav1 (hEr.below hb1)).mono ?_; rintro e w2 ⟨rfl, hb2⟩
      have hbx := below_trans hb1 hb2
      have hszx := hbx.size
      go_wp2_with (at_builtin; refine push_str (by rfl) _ _ (by rfl) w0.heap.size _ ((ls.take k).map DnS.ntext) (by rfl) ((HOWN.out.call hbx).alloc _) w2.heap.size (by rfl) t ?e1 ?e3 ?e4 ?_)
      case e1 => simp [go_sem, strV]
      case e3 => rw [List.length_map, List.length_take]; omega
      case e4 => simp; omega
      intro v' w4 hown4 hb4
      have HOWN4 := hZ9 hown4
      clear hown4
      go_wp2_with fail
      go_roundw
      case rel => exact ⟨k + 1, by rw [HN.out]; omega, by go_num, by rw [HMT.out, List.map_take]; exact HOWN4.out, ((hb.trans (hbx.mono hsz)).alloc (by omega) _).trans hb4⟩
      case measure => simp [intOf]; omega
    · have hkn : k = n := by omega
      subst hkn
      have hall : ls.take k = ls := List.take_of_length_le (by rw [HN.out]; omega)
      have hown := HOWN.out
      rw [hall] at hown
      have hjd := joined_c _ _ wr hown.strs (by rw [List.length_map, HN.out]; omega) HTS.out
      have hjs := HJS.out
      have HOWN2 := hZ9 hown
      generalize DnS.joinS (ls.map DnS.ntext) = J at *
      clear hall hown
      by_cases h1000 : 1000 < J.length
      · have hz : (1000 : Int) < (J.length : Int) := by omega
        have HR := hZ9 (HLONG.out h1000)
        clear HLONG HYES
        go_wp2_with fail
        refine hjd.mono ?_; rintro e w1 ⟨rfl, rfl⟩
        go_wp2_with fail
        go_ret2
        exact PartsRet.none HR.out hb00
      · have hz : decide ((1000 : Int) < (J.length : Int)) = false := decide_eq_false (by omega)
        have HR := hZ9 (HYES.out h1000)
        clear HLONG HYES
        go_wp2_with fail
        refine hjd.mono ?_; rintro e w1 ⟨rfl, rfl⟩
        go_wp2_with fail
        go_ret2
        exact ⟨_, by rw [HR.out]; rfl, by rw [HR.out]; exact HOWN2.out.mono hb0.size, hb00⟩
 · have HR := hZ9 (DnS.texts_no hP he)
   have hl0 : ls = [] := by
    have := DnS.name_bad (s := l) (by rw [hP]; exact he)
    rw [hP] at this; exact this
   subst hl0
   clear hP
   have hez : (e0 != 0) = true := by simpa using he
   go_enter Tryz.func113, Tryz.ntmps113
   go_wp2_with fail
   refine hnm.mono ?_
   rintro e w0 ⟨v, rfl, hv, hb0⟩
   go_wp2_with fail
   go_ret2
   exact PartsRet.none HR.out hb0
end
section
open Go.RowKit
theorem dnparts_c (l : List UInt8) (hl : l.length <= 1000000) (w : World) (hE : Env w) : Calls Tryz.prog 99 #[.string ⟨l.toArray⟩] w (PartsRet l w) := by
 have hnm := dnparse_c l hl w hE
 unfold NameRetP at hnm
 obtain ⟨P, hP⟩ : ∃ P, DnS.nameS l = P := ⟨_, rfl⟩
 obtain ⟨ls, e0⟩ := P
 rw [hP] at hnm
 simp only at hnm
 by_cases he : e0 = 0
 · subst he
   have hfm := DnS.nameS_formed hP
   have HFM := hZ9 hfm.2.1
   have hn12 : ls.length <= 12 := hfm.1
   have HJS := hZ9 (DnS.join_small hfm.1 hfm.2.1)
   have HTS := hZ9 (DnS.texts_small hfm.2.1)
   have HLONG := hZ9 (DnS.texts_long hP)
   have HYES := hZ9 (DnS.texts_yes hP)
   clear hfm hP
   go_enter Tryz.func99, Tryz.ntmps99
   go_wp2_with fail
   refine hnm.mono ?_
   rintro e w0 ⟨v, rfl, hv, hb0⟩
   obtain ⟨a, c, rfl, hc, hcase⟩ := hv.at
   have HC : Hid (∀ k (h : k < ls.length), ∃ g o, a = some ⟨g, o, none⟩ /\ g < w0.heap.size /\ ∃ u, w0.cell? ⟨g, o + k, none⟩ = some u /\ AvasIn w0 u ls[k]) := hZ9 (fun k hk => by
    rcases hcase with rfl | ⟨g, o, rfl, hg, hcell⟩
    · simp at hk
    · exact ⟨g, o, rfl, hg, hcell k _ (List.getElem?_eq_getElem hk)⟩)
   have HFM2 := hZ9 (fun k (h : k < ls.length) => HFM.out ls[k] (List.getElem_mem h))
   clear hcase hv hnm
   generalize hln : ls.length = n at hn12 hc ⊢
   have HN := hZ9 hln
   clear hln
   go_wp2_with fail
   go_loopw [6, 26] (fun out i wr => PartsLoop ls w0 out i wr) (fun _ i _ => n - (intOf i).toNat)
   case atStart => exact ⟨0, Nat.zero_le _, rfl, Own.empty _ _, grow1 w0 _⟩
   case round =>
    obtain ⟨k, hk, rfl, hown, hb⟩ := hrel
    rw [HN.out] at hk
    have hsz := hb.size
    have hb00 : Below w.heap.size w wr := hb0.trans (hb.mono hb0.size)
    have hEr := hE.below hb00
    have HOWN := hZ9 hown
    clear hown
    by_cases hlt : k < n
    · have hlt2 : k < ls.length := by rw [HN.out]; exact hlt
      obtain ⟨g, o, rfl, hg, u, hcx, hav⟩ := HC.out k hlt2
      replace hcx : wr.cell? ⟨g, o + k, none⟩ = some u := (hb.cell (p := ⟨g, o + k, none⟩) hg).trans hcx
      replace hav : AvasIn wr u ls[k] := hav.call hb (Nat.le_refl _)
      have HMT := hZ9 (DnS.map_take hlt2)
      have hq := HFM2.out k hlt2
      generalize ls[k] = q at *
      obtain ⟨a1, n1, c1, rfl⟩ : ∃ a1 n1 c1, u = .slice a1 n1 c1 := by
       obtain ⟨a1, c1, e, _⟩ := hav
       exact ⟨a1, _, c1, e⟩
      have hnp := rdnormal_c _ q wr hav (fit_small hq) hEr
      unfold NormRetP at hnp
      rw [DnS.normP_formed hq] at hnp
      have hpr := fun v w h hE => rdprint_c v (RdS.normL q) w h (fit_small (RdS.norm_formed hq).1) hE
      unfold PrintRet at hpr
      rw [DnS.printS_norm hq] at hpr
      simp only at hnp hpr
      generalize RdS.normL q = qn at *
      generalize DnS.ntext q = t at *
      clear hlt2 hav hq
      go_wp2_with fail
      refine hnp.mono ?_; rintro e w1 ⟨v1, rfl, hav1, hb1⟩
      obtain ⟨a2, n2, c2, rfl⟩ : ∃ a2 n2 c2, v1 = .slice a2 n2 c2 := by
       obtain ⟨a1, c1, e, _⟩ := hav1
       exact ⟨a1, _, c1, e⟩
      go_wp2_with fail
      refine (hpr _ _ hav1 (hEr.below hb1)).mono ?_; rintro e w2 ⟨rfl, hb2⟩
      have hbx := below_trans hb1 hb2
      have hszx := hbx.size
      go_wp2_with (at_builtin; refine push_str (by rfl) _ _ (by rfl) w0.heap.size _ ((ls.take k).map DnS.ntext) (by rfl) ((HOWN.out.call hbx).alloc _) w2.heap.size (by rfl) t ?e1 ?e3 ?e4 ?_)
      case e1 => simp [go_sem, strV]
      case e3 => rw [List.length_map, List.length_take]; omega
      case e4 => simp; omega
      intro v' w4 hown4 hb4
      have HOWN4 := hZ9 hown4
      clear hown4
      go_wp2_with fail
      go_roundw
      case rel => exact ⟨k + 1, by rw [HN.out]; omega, by go_num, by rw [HMT.out, List.map_take]; exact HOWN4.out, ((hb.trans (hbx.mono hsz)).alloc (by omega) _).trans hb4⟩
      case measure => simp [intOf]; omega
    · have hkn : k = n := by omega
      subst hkn
      have hall : ls.take k = ls := List.take_of_length_le (by rw [HN.out]; omega)
      have hown := HOWN.out
      rw [hall] at hown
      have hjd := fit_c _ _ wr hown.strs (by rw [List.length_map, HN.out]; omega) (by have := HJS.out; omega)
      have hjs := HJS.out
      have HOWN2 := hZ9 hown
      have HF1 : Hid (1000 < (DnS.joinS (ls.map DnS.ntext)).length -> DnS.fitS (ls.map DnS.ntext) = ([], 4)) := hZ9 (fun h => by unfold DnS.fitS; rw [if_pos (.inr h)])
      have HF2 : Hid (¬ 1000 < (DnS.joinS (ls.map DnS.ntext)).length -> DnS.fitS (ls.map DnS.ntext) = (DnS.joinS (ls.map DnS.ntext), 0)) := hZ9 (fun h => DnS.fit_in (by rw [List.length_map, HN.out]; omega) (by omega))
      generalize DnS.joinS (ls.map DnS.ntext) = J at *
      clear hall hown
      by_cases h1000 : 1000 < J.length
      · have hz : (1000 : Int) < (J.length : Int) := by omega
        have HR := hZ9 (HLONG.out h1000)
        rw [HF1.out h1000] at hjd
        simp only at hjd
        have hb000 := hb00
        clear HF1 HF2
        clear HLONG HYES
        go_wp2_with fail
        refine hjd.mono ?_; rintro e w1 ⟨rfl, hb1⟩
        go_wp2_with fail
        go_ret2
        exact PartsRet.none HR.out (hb00.trans (hb1.mono hb00.size))
      · have hz : decide ((1000 : Int) < (J.length : Int)) = false := decide_eq_false (by omega)
        have HR := hZ9 (HYES.out h1000)
        rw [HF2.out h1000] at hjd
        simp only at hjd
        clear HF1 HF2
        clear HLONG HYES
        go_wp2_with fail
        refine hjd.mono ?_; rintro e w1 ⟨rfl, hb1⟩
        go_wp2_with fail
        go_ret2
        exact ⟨_, by rw [HR.out]; rfl, by rw [HR.out]; exact (HOWN2.out.call hb1).mono hb0.size, hb00.trans (hb1.mono hb00.size)⟩
 · have HR := hZ9 (DnS.texts_no hP he)
   have hl0 : ls = [] := by
    have := DnS.name_bad (s := l) (by rw [hP]; exact he)
    rw [hP] at this; exact this
   subst hl0
   clear hP
   have hez : (e0 != 0) = true := by simpa using he
   go_enter Tryz.func99, Tryz.ntmps99
   go_wp2_with fail
   refine hnm.mono ?_
   rintro e w0 ⟨v, rfl, hv, hb0⟩
   obtain ⟨a, c, rfl, hc, -⟩ := hv.at
   go_wp2_with fail
   go_ret2
   exact PartsRet.none HR.out (below_alloc hb0 _)
end
section
open Go.RowKit
def NmTxt (r : List UInt8 × Int) (w : World) (e : Ending) (w' : World) : Prop := e = .returned (.tuple #[.string ⟨r.1.toArray⟩, .int .i64 r.2]) /\ Below w.heap.size w w'
theorem dnnormal_c (l : List UInt8) (hl : l.length <= 1000000) (w : World) (hE : Env w) : Calls Tryz.prog 77 #[.string ⟨l.toArray⟩] w (NmTxt (DnS.normN l) w) := by
 have hp := dnparts_c l hl w hE
 unfold PartsRet at hp
 have HN : Hid (DnS.normN l = (DnS.joinS (DnS.textsS l).1, (DnS.textsS l).2)) := hZ9 rfl
 have hln := DnS.texts_len l
 have HE := hZ9 (DnS.texts_each (s := l))
 generalize DnS.textsS l = T at *
 obtain ⟨ts, e0⟩ := T
 simp only at hp hln HE HN
 go_enter Tryz.func77, Tryz.ntmps77
 go_wp2_with fail
 refine hp.mono ?_; rintro e w1 ⟨v, rfl, hown, hb⟩
 obtain ⟨a, c, rfl⟩ := hown.form
 go_wp2_with fail
 refine (join_c _ ts _ hown.strs (by omega) (by omega)).mono ?_; rintro e w2 ⟨rfl, hb2⟩
 go_wp2_with fail
 go_ret2
 exact ⟨by rw [HN.out]; rfl, below_trans hb hb2⟩
theorem rnnormal_c (l : List UInt8) (hl : l.length <= 1000000) (w : World) (hE : Env w) : Calls Tryz.prog 87 #[.string ⟨l.toArray⟩] w (NmTxt (DnS.normN l) w) := by
 have hp := refparts_c l hl w hE
 unfold PartsRet at hp
 have HN : Hid (DnS.normN l = (DnS.joinS (DnS.textsS l).1, (DnS.textsS l).2)) := hZ9 rfl
 have hln := DnS.texts_len l
 have HE := hZ9 (DnS.texts_each (s := l))
 generalize DnS.textsS l = T at *
 obtain ⟨ts, e0⟩ := T
 simp only at hp hln HE HN
 go_enter Tryz.func87, Tryz.ntmps87
 go_wp2_with fail
 refine hp.mono ?_; rintro e w1 ⟨v, rfl, hown, hb⟩
 obtain ⟨a, c, rfl⟩ := hown.form
 go_wp2_with fail
 refine (joined_c _ ts _ hown.strs (by omega) HE.out).mono ?_; rintro e w2 ⟨rfl, rfl⟩
 go_wp2_with fail
 go_ret2
 exact ⟨by rw [HN.out]; rfl, hb⟩
end
end Go.Proofs.YtjmfknfponjgkaaGreatDoor
