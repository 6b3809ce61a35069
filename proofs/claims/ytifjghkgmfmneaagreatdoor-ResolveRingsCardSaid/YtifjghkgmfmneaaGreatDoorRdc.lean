/- The walk of the program's 'Split': a text cut at the bytes that have no stroke ahead. Conditions: the text has at most 1000000 bytes; the byte is not the stroke. The walk of the document's 'Split'. Conditions: the text has at most 1000000 bytes; the byte is not the stroke. -/
import Derived.Test.YtifjghkgmfmneaaGreatDoorMem
import Derived.Test.YtifjghkgmfmneaaGreatDoorRdS
import Derived.Laws.OwnMore
import Derived.Deep.AppendLies
import Derived.Test.YtifjghkgmfmneaaGreatDoorRuS
namespace Go.Proofs.YtifjghkgmfmneaaGreatDoor
open Go.RowKit

theorem mk_extract (l : List UInt8) (a b : Nat) : (⟨l.toArray⟩ : ByteArray).extract a b = ⟨((l.take b).drop a).toArray⟩ := by
  apply ByteArray.ext
  rw [ByteArray.data_extract]
  apply Array.ext'
  simp [List.extract, List.drop_take]
theorem mk_app (l r : List UInt8) : (⟨l.toArray⟩ ++ ⟨r.toArray⟩ : ByteArray) = ⟨(l ++ r).toArray⟩ := by
  apply ByteArray.ext
  rw [ByteArray.data_append]
  simp
theorem u8_is {c n : UInt8} {k : Int} (hn : (n.toNat : Int) = k) (h : (c.toNat : Int) = k) : c = n := UInt8.toNat_inj.1 (by omega)
theorem cat_c (cur l : List UInt8) (a b : Nat) (h1 : cur.length ≤ 2000000) (h2 : l.length ≤ 1000000) {y : List UInt8} (hy : (l.take b).drop a = y) (w : World) :
    (Op.stringOp .add ⟨cur.toArray⟩ ((⟨l.toArray⟩ : ByteArray).extract a b)).run Tryz.prog w = .ok (.string ⟨(cur ++ y).toArray⟩) w := by
  rw [mk_extract, hy]
  have : y.length ≤ l.length := by rw [← hy, List.length_drop, List.length_take]; omega
  rw [← mk_app]
  exact run_string_add_sum w _ _ (by show cur.toArray.size + y.toArray.size ≤ _; simp; omega)
def SplitRet (sep : UInt8) (l : List UInt8) (w : World) (e : Ending) (w' : World) : Prop := ∃ v, e = .returned v ∧ StrsIn w' v (RdS.splitE sep l) ∧ Below w.heap.size w w'
/-- the pieces that are done, the one that is open -/
def SplitLoop (sep : UInt8) (l : List UInt8) (w0 : World) (out i : Value) (wr : World) : Prop :=
  ∃ (k : Nat) (ys : List (List UInt8)) (cur : List UInt8), k ≤ l.length ∧ i = .int .i64 k ∧ Own wr w0.heap.size out (ys ++ [cur]) ∧ ys.length ≤ k ∧ cur.length ≤ k ∧
    RdS.splitE sep l = ys ++ RdS.glue cur (RdS.splitE sep (l.drop k)) ∧ Below w0.heap.size w0 wr
/-- the last text of an own row, and what its place may bear -/
theorem Own.last {w : World} {B : Nat} {v : Value} {ys : List (List UInt8)} {cur : List UInt8} (h : Own w B v (ys ++ [cur])) : ∃ g c, v = .slice (some ⟨g, 0, none⟩) (ys.length + 1) c ∧ B ≤ g ∧
    w.cell? ⟨g, ys.length, none⟩ = some (strV cur) ∧ w.frozen? ⟨g, ys.length, none⟩ = false ∧ (∀ z : List UInt8, Own (w.setCell ⟨g, ys.length, none⟩ (strV z)) B v (ys ++ [z])) := by
  have hl : (ys ++ [cur]).length = ys.length + 1 := by simp
  have h0 := h
  unfold Own at h0
  rw [hl] at h0
  obtain ⟨g, cap, rfl, hg, _⟩ := World.ownsRow.form h0 (Nat.succ_pos _)
  refine ⟨g, cap, rfl, hg, ?_, World.ownsRow.frozenAt h0 _, fun z => ?_⟩
  · have := World.ownsRow.cells h0 (g := g) rfl ys.length (strV cur) (by rw [List.map_append, List.getElem?_append_right (by simp)]; simp)
    have hadd : (⟨g, 0, none⟩ : Addr).add ys.length = ⟨g, ys.length, none⟩ := by unfold Addr.add; split <;> simp_all
    rwa [hadd] at this
  · have := (World.ownsRow.stored h0 ys.length (strV z)).1
    unfold Own
    rw [show (ys ++ [z]).length = ys.length + 1 from by simp]
    rw [List.map_append, List.set_append_right _ _ (by simp)] at this
    rw [List.map_append]
    simpa using this

set_option maxRecDepth 100000 in
theorem rdsplit_c (l : List UInt8) (sep : UInt8) (hl : l.length ≤ 1000000) (h92 : sep ≠ 92) (w : World) : Calls Tryz.prog 209 #[.string ⟨l.toArray⟩, .int .u8 (sep.toNat : Int)] w (SplitRet sep l w) := by
  have hn92 : ((sep.toNat : Int) != 92) = true := by
    rw [bne_iff_ne]; intro h; exact h92 (u8_is (n := 92) rfl h)
  have H92 := Lib.hid h92
  clear h92
  go_enter Tryz.func209, Tryz.ntmps209
  go_wp2_with fail
  go_loopw [5, 6] (fun out i wr => SplitLoop sep l w out i wr) (fun _ i _ => l.length - (intOf i).toNat)
  case atStart =>
    refine ⟨0, [], [], Nat.zero_le _, rfl, ?_, Nat.zero_le _, Nat.zero_le _, ?_, grow1 w _⟩
    · exact ⟨rfl, .inr ⟨w.heap.size, 1, #[.string ⟨#[]⟩], rfl, Nat.le_refl _, by show (w.heap.push _)[w.heap.size]? = _; rw [Array.getElem?_push_size], Nat.le_refl _, by unfold maxLen; omega, rfl, rfl⟩⟩
    · obtain ⟨p, ps, e⟩ := RdS.splitE_ne sep l
      rw [List.drop_zero, e]; rfl
  case round =>
    obtain ⟨k, ys, cur, hk, rfl, hown, hys, hcl, hsp, hb⟩ := hrel
    by_cases hlt : k < l.length
    · have HD := Lib.hid (List.drop_eq_getElem_cons hlt)
      generalize hcq : l[k] = c at *
      have hq2 : ∀ h, (⟨l.toArray⟩ : ByteArray)[k]'h = c := fun _ => hcq
      have HK := Lib.hid hk
      have HSP := Lib.hid hsp
      have HOWN := Lib.hid hown
      obtain ⟨g, cp, rfl, hg, hc, hfz, hset⟩ := hown.last
      have HSET := Lib.hid hset
      unfold strV at hc
      clear hcq hsp hset hk
      cases hcs : (c == sep) with
      | true =>
        have HC := Lib.hid (beq_iff_eq.1 hcs)
        have e1 : ((c.toNat : Int) == (sep.toNat : Int)) = true := by rw [beq_iff_eq.1 hcs]; exact beq_self_eq_true _
        clear hcs
        go_wp2_with (at_builtin; refine push_str (by rfl) _ _ (by rfl) w.heap.size (.slice (some ⟨g, 0, none⟩) (ys.length + 1) cp) (ys ++ [cur]) (by rfl) (HOWN.out.alloc _) wr.heap.size (by rfl) [] ?c1 ?c2 ?c3 ?_)
        case c1 => simp [go_sem, strV]
        case c2 => simp; omega
        case c3 => have := hb.size; simp; omega
        intro v' w2 hown2 hb2
        go_wp2_with fail
        go_roundw
        case rel =>
          refine ⟨k + 1, ys ++ [cur], [], hlt, by go_num, by rw [List.append_assoc]; exact hown2, by simp; omega, Nat.zero_le _, ?_, (hb.alloc hb.size _).trans hb2⟩
          rw [HSP.out, HD.out, HC.out, RdS.splitE_sep, RdS.glue_cons, List.append_nil, List.append_assoc]
          obtain ⟨p, ps, e⟩ := RdS.splitE_ne sep (l.drop (k + 1))
          rw [e]; rfl
        case measure => simp [intOf]; omega
      | false =>
        have HC : Hid (c ≠ sep) := Lib.hid (by simpa using hcs)
        have e1 : ((c.toNat : Int) == (sep.toNat : Int)) = false := beq_eq_false_iff_ne.2 (fun h => HC.out (UInt8.toNat_inj.1 (by omega)))
        clear hcs
        have HFIN : Hid (∀ (k2 : Nat) (y : List UInt8) (i : Value), k2 ≤ l.length → k ≤ k2 → y.length ≤ k2 - k → i = .int .i64 k2 → RdS.splitE sep (l.drop k) = RdS.glue y (RdS.splitE sep (l.drop k2)) →
            SplitLoop sep l w (.slice (some ⟨g, 0, none⟩) (ys.length + 1) cp) i (wr.drew.setCell ⟨g, ys.length, none⟩ (.string ⟨(cur ++ y).toArray⟩))) := Lib.hid (fun k2 y i h1 h2 h3 hi h4 =>
          ⟨k2, ys, cur ++ y, h1, hi, HSET.out (cur ++ y), by omega, by rw [List.length_append]; omega, by rw [HSP.out, h4, RdS.glue_glue], hb.drew.setCell (p := ⟨g, ys.length, none⟩) hg _⟩)
        by_cases h92 : c = 92
        · have HC9 := Lib.hid h92
          have e92 : ((c.toNat : Int) == 92) = true := by rw [h92]; rfl
          clear h92
          by_cases hk1 : k + 1 < l.length
          · have hmin : min ((k : Int) + 2) (l.length : Int) = (k : Int) + 2 := by omega
            have hy : (l.take (k + 2)).drop k = [92, l[k + 1]] := by
              rw [List.drop_take, HD.out, List.drop_eq_getElem_cons hk1, HC9.out, show k + 2 - k = 2 from by omega]; rfl
            have hadd := cat_c cur l k (k + 2) (by omega) (by omega) hy
            have HG : Hid (RdS.splitE sep (l.drop k) = RdS.glue [92, l[k + 1]] (RdS.splitE sep (l.drop (k + 2)))) := Lib.hid (by
              rw [HD.out, HC9.out, List.drop_eq_getElem_cons hk1, RdS.splitE_stroke H92.out])
            clear hy
            generalize l[k + 1] = d at *
            go_wp2_with fail
            go_region
            all_goals go_wp2_with fail
            all_goals go_roundw
            all_goals first | (simp [intOf]; omega) | exact HFIN.out (k + 2) [92, d] _ (by omega) (by omega) (by simp) (by go_num) HG.out
          · have hke : k + 1 = l.length := by omega
            have hmin : min ((k : Int) + 2) (l.length : Int) = (l.length : Int) := by omega
            have hnil : l.drop (k + 1) = [] := by rw [hke]; exact List.drop_length
            have hy : (l.take l.length).drop k = [92] := by rw [List.take_length, HD.out, hnil, HC9.out]
            have hadd := cat_c cur l k l.length (by omega) (by omega) hy
            have HG : Hid (RdS.splitE sep (l.drop k) = RdS.glue [92] (RdS.splitE sep (l.drop l.length))) := Lib.hid (by
              rw [HD.out, HC9.out, hnil, RdS.splitE_stroke1 H92.out, List.drop_length]; simp [RdS.splitE, RdS.glue])
            clear hy hnil
            go_wp2_with fail
            go_region
            all_goals go_wp2_with fail
            all_goals go_roundw
            all_goals first | (simp [intOf]; omega) | exact HFIN.out l.length [92] _ (by omega) (by omega) (by simp; omega) (by go_num) HG.out
        · have HC9 := Lib.hid h92
          have e92 : ((c.toNat : Int) == 92) = false := beq_eq_false_iff_ne.2 (fun h => h92 (u8_is (n := 92) rfl h))
          have hadd := cat_c cur l k (k + 1) (by omega) (by omega) (show (l.take (k + 1)).drop k = [c] by rw [List.drop_take, HD.out]; simp)
          clear h92
          have HG : Hid (RdS.splitE sep (l.drop k) = RdS.glue [c] (RdS.splitE sep (l.drop (k + 1)))) := Lib.hid (by rw [HD.out, RdS.splitE_plain HC.out HC9.out])
          go_wp2_with fail
          go_region
          all_goals go_wp2_with fail
          all_goals go_roundw
          all_goals first | (simp [intOf]; omega) | exact HFIN.out (k + 1) [c] _ (by omega) (by omega) (by simp) (by go_num) HG.out
    · have hkl : k = l.length := by omega
      subst hkl
      have hd : l.drop l.length = [] := List.drop_length
      rw [hd] at hsp
      have hsp2 : RdS.splitE sep l = ys ++ [cur] := by rw [hsp]; simp [RdS.splitE, RdS.glue]
      rw [← hsp2] at hown
      clear hsp hsp2 hd
      go_wp2_with fail
      go_ret
      exact ⟨_, rfl, hown.strs, hb⟩
end Go.Proofs.YtifjghkgmfmneaaGreatDoor
namespace Go.Proofs.YtifjghkgmfmneaaGreatDoor
open Go.RowKit

def RefSplitLoop (sep : UInt8) (l : List UInt8) (w0 : World) (out fr i : Value) (wr : World) : Prop :=
  ∃ (k f : Nat) (ys : List (List UInt8)), k ≤ l.length + 1 ∧ i = .int .i64 k ∧ fr = .int .i64 f ∧ f ≤ k ∧ f ≤ l.length ∧ Own wr w0.heap.size out ys ∧ ys.length ≤ k ∧
    RdS.splitE sep l = ys ++ RdS.glue ((l.take k).drop f) (RdS.splitE sep (l.drop k)) ∧ Below w0.heap.size w0 wr
theorem take_drop_add (l : List UInt8) (f k j : Nat) (h : f ≤ k) (hk : k ≤ l.length) : (l.take (k + j)).drop f = (l.take k).drop f ++ (l.drop k).take j := by
  rw [List.take_add, List.drop_append]
  have : f - (l.take k).length = 0 := by rw [List.length_take]; omega
  rw [this, List.drop_zero]

set_option maxRecDepth 100000 in
theorem refsplit_c (l : List UInt8) (sep : UInt8) (hl : l.length ≤ 1000000) (h92 : sep ≠ 92) (w : World) : Calls Tryz.prog 167 #[.string ⟨l.toArray⟩, .int .u8 (sep.toNat : Int)] w (SplitRet sep l w) := by
  have H92 := Lib.hid h92
  clear h92
  go_enter Tryz.func167, Tryz.ntmps167
  go_wp2_with fail
  go_loopw [5, 6, 7] (fun out fr i wr => RefSplitLoop sep l w out fr i wr) (fun _ _ i _ => l.length + 1 - (intOf i).toNat)
  case atStart =>
    refine ⟨0, 0, [], Nat.zero_le _, rfl, rfl, Nat.le_refl _, Nat.zero_le _, Own.empty _ _, Nat.zero_le _, ?_, Below.refl _ _⟩
    obtain ⟨p, ps, e⟩ := RdS.splitE_ne sep l
    simp [e, RdS.glue]
  case round =>
    obtain ⟨k, f, ys, hk, rfl, rfl, hfk, hfl, hown, hys, hsp, hb⟩ := hrel
    by_cases hlt : k < l.length
    · have HD := Lib.hid (List.drop_eq_getElem_cons hlt)
      generalize hcq : l[k] = c at *
      have hq2 : ∀ h, (⟨l.toArray⟩ : ByteArray)[k]'h = c := fun _ => hcq
      have HK := Lib.hid hk
      have HSP := Lib.hid hsp
      have HTA := Lib.hid (fun j => take_drop_add l f k j hfk (by omega))
      clear hcq hsp hk
      by_cases h92 : c = 92
      · have HC9 := Lib.hid h92
        have e92 : ((c.toNat : Int) == 92) = true := by rw [h92]; rfl
        clear h92
        go_wp2_with fail
        go_roundw
        case rel =>
          refine ⟨k + 2, f, ys, by omega, by go_num, rfl, by omega, hfl, hown, by omega, ?_, hb⟩
          rw [HSP.out, HTA.out 2, HD.out, HC9.out]
          by_cases hk1 : k + 1 < l.length
          · rw [List.drop_eq_getElem_cons hk1, RdS.splitE_stroke H92.out, RdS.glue_glue]; rfl
          · have hnil : l.drop (k + 1) = [] := List.drop_of_length_le (by omega)
            have hnil2 : l.drop (k + 2) = [] := List.drop_of_length_le (by omega)
            rw [hnil, hnil2, RdS.splitE_stroke1 H92.out]; simp [RdS.splitE, RdS.glue]
        case measure => simp [intOf]; omega
      · have HC9 := Lib.hid h92
        have e92 : ((c.toNat : Int) == 92) = false := beq_eq_false_iff_ne.2 (fun h => h92 (u8_is (n := 92) rfl h))
        clear h92
        cases hcs : (c == sep) with
        | true =>
          have HC := Lib.hid (beq_iff_eq.1 hcs)
          have e1 : ((c.toNat : Int) == (sep.toNat : Int)) = true := by rw [beq_iff_eq.1 hcs]; exact beq_self_eq_true _
          clear hcs
          go_wp2_with (at_builtin; refine push_str (by rfl) _ _ (by rfl) w.heap.size _ ys (by rfl) (hown.alloc _) wr.heap.size (by rfl) ((l.take k).drop f) ?c1 ?c2 ?c3 ?_)
          case c1 => simp [go_sem, strV, mk_extract]
          case c2 => omega
          case c3 => have := hb.size; simp; omega
          intro v' w2 hown2 hb2
          go_wp2_with fail
          go_roundw
          case rel =>
            refine ⟨k + 1, k + 1, ys ++ [(l.take k).drop f], by omega, by go_num, by go_num, Nat.le_refl _, by omega, hown2, by simp; omega, ?_, (hb.alloc hb.size _).trans hb2⟩
            have e0 : (l.take (k + 1)).drop (k + 1) = [] := List.drop_of_length_le (by rw [List.length_take]; omega)
            obtain ⟨p, ps, e⟩ := RdS.splitE_ne sep (l.drop (k + 1))
            rw [HSP.out, HD.out, HC.out, RdS.splitE_sep, RdS.glue_cons, List.append_nil, List.append_assoc, e0, e]; rfl
          case measure => simp [intOf]; omega
        | false =>
          have HC : Hid (c ≠ sep) := Lib.hid (by simpa using hcs)
          have e1 : ((c.toNat : Int) == (sep.toNat : Int)) = false := beq_eq_false_iff_ne.2 (fun h => HC.out (UInt8.toNat_inj.1 (by omega)))
          clear hcs
          go_wp2_with fail
          go_roundw
          case rel =>
            refine ⟨k + 1, f, ys, by omega, by go_num, rfl, by omega, hfl, hown, by omega, ?_, hb⟩
            rw [HSP.out, HTA.out 1, HD.out, RdS.splitE_plain HC.out HC9.out, RdS.glue_glue]; rfl
          case measure => simp [intOf]; omega
    · have hd : l.drop k = [] := List.drop_of_length_le (by omega)
      have ht : l.take k = l := List.take_of_length_le (by omega)
      have hsp2 : RdS.splitE sep l = ys ++ [l.drop f] := by rw [hsp, hd, ht]; simp [RdS.splitE, RdS.glue]
      have HSP := Lib.hid hsp2
      clear hsp hsp2 hd ht
      go_wp2_with (at_builtin; refine push_str (by rfl) _ _ (by rfl) w.heap.size _ ys (by rfl) (hown.alloc _) wr.heap.size (by rfl) (l.drop f) ?d1 ?d2 ?d3 ?_)
      case d1 => simp [go_sem, strV, mk_extract]
      case d2 => omega
      case d3 => have := hb.size; simp; omega
      intro v' w2 hown2 hb2
      go_wp2_with fail
      go_ret
      exact ⟨_, rfl, by rw [HSP.out]; exact hown2.strs, (hb.alloc hb.size _).trans hb2⟩
end Go.Proofs.YtifjghkgmfmneaaGreatDoor
