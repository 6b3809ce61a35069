/- The walk of the document's 'Split'. Conditions: the text has at most 1000000 bytes; the byte is not the stroke. -/
import Derived.Test.YtjjbkldlgjllnaaGreatDoorRdc
namespace Go.Proofs.YtjjbkldlgjllnaaGreatDoor
open Go.RowKit

def RefSplitLoop (sep : UInt8) (l : List UInt8) (w0 : World) (out fr i : Value) (wr : World) : Prop :=
  ∃ (k f : Nat) (ys : List (List UInt8)), k ≤ l.length + 1 ∧ i = .int .i64 k ∧ fr = .int .i64 f ∧ f ≤ k ∧ f ≤ l.length ∧ Own wr w0.heap.size out ys ∧ ys.length ≤ k ∧
    RdS.splitE sep l = ys ++ RdS.glue ((l.take k).drop f) (RdS.splitE sep (l.drop k)) ∧ Below w0.heap.size w0 wr
theorem take_drop_add (l : List UInt8) (f k j : Nat) (h : f ≤ k) (hk : k ≤ l.length) : (l.take (k + j)).drop f = (l.take k).drop f ++ (l.drop k).take j := by
  rw [List.take_add, List.drop_append]
  have : f - (l.take k).length = 0 := by rw [List.length_take]; omega
  rw [this, List.drop_zero]

set_option maxRecDepth 100000 in
theorem refsplit_c (l : List UInt8) (sep : UInt8) (hl : l.length ≤ 1000000) (h92 : sep ≠ 92) (w : World) : Calls Tryz.prog 90 #[.string ⟨l.toArray⟩, .int .u8 (sep.toNat : Int)] w (SplitRet sep l w) := by
  have H92 := Lib.hid h92
  clear h92
  go_enter Tryz.func90, Tryz.ntmps90
  go_wp2_with fail
  go_loopw [5, 6, 7] (fun out fr i wr => RefSplitLoop sep l w out fr i wr) (fun _ _ i _ => l.length + 1 - (intOf i).toNat)
  case atStart =>
    refine ⟨0, 0, [], Nat.zero_le _, rfl, rfl, Nat.le_refl _, Nat.zero_le _, Own.empty _ _, Nat.zero_le _, ?_, Below.refl _ _⟩
    obtain ⟨p, ps, e⟩ := RdS.splitE_ne sep l
    simp [e, RdS.glue]
  case round =>
    obtain ⟨k, f, ys, hk, rfl, rfl, hfk, hfl, hown, hys, hsp, hb⟩ := hrel
    by_cases hlt : k < l.length
    · have HD := Lib.hid (List.drop_eq_getElem_cons hlt)
      generalize hcq : l[k] = c at *
      have hq2 : ∀ h, (⟨l.toArray⟩ : ByteArray)[k]'h = c := fun _ => hcq
      have HK := Lib.hid hk
      have HSP := Lib.hid hsp
      have HTA := Lib.hid (fun j => take_drop_add l f k j hfk (by omega))
      clear hcq hsp hk
      by_cases h92 : c = 92
      · have HC9 := Lib.hid h92
        have e92 : ((c.toNat : Int) == 92) = true := by rw [h92]; rfl
        clear h92
        go_wp2_with fail
        go_roundw
        case rel =>
          refine ⟨k + 2, f, ys, by omega, by go_num, rfl, by omega, hfl, hown, by omega, ?_, hb⟩
          rw [HSP.out, HTA.out 2, HD.out, HC9.out]
          by_cases hk1 : k + 1 < l.length
          · rw [List.drop_eq_getElem_cons hk1, RdS.splitE_stroke H92.out, RdS.glue_glue]; rfl
          · have hnil : l.drop (k + 1) = [] := List.drop_of_length_le (by omega)
            have hnil2 : l.drop (k + 2) = [] := List.drop_of_length_le (by omega)
            rw [hnil, hnil2, RdS.splitE_stroke1 H92.out]; simp [RdS.splitE, RdS.glue]
        case measure => simp [intOf]; omega
      · have HC9 := Lib.hid h92
        have e92 : ((c.toNat : Int) == 92) = false := beq_eq_false_iff_ne.2 (fun h => h92 (u8_is (n := 92) rfl h))
        clear h92
        cases hcs : (c == sep) with
        | true =>
          have HC := Lib.hid (beq_iff_eq.1 hcs)
          have e1 : ((c.toNat : Int) == (sep.toNat : Int)) = true := by rw [beq_iff_eq.1 hcs]; exact beq_self_eq_true _
          clear hcs
          go_wp2_with (at_builtin; refine push_str (by rfl) _ _ (by rfl) w.heap.size _ ys (by rfl) (hown.alloc _) wr.heap.size (by rfl) ((l.take k).drop f) ?c1 ?c2 ?c3 ?_)
          case c1 => simp [go_sem, strV, mk_extract]
          case c2 => omega
          case c3 => have := hb.size; simp; omega
          intro v' w2 hown2 hb2
          go_wp2_with fail
          go_roundw
          case rel =>
            refine ⟨k + 1, k + 1, ys ++ [(l.take k).drop f], by omega, by go_num, by go_num, Nat.le_refl _, by omega, hown2, by simp; omega, ?_, (hb.alloc hb.size _).trans hb2⟩
            have e0 : (l.take (k + 1)).drop (k + 1) = [] := List.drop_of_length_le (by rw [List.length_take]; omega)
            obtain ⟨p, ps, e⟩ := RdS.splitE_ne sep (l.drop (k + 1))
            rw [HSP.out, HD.out, HC.out, RdS.splitE_sep, RdS.glue_cons, List.append_nil, List.append_assoc, e0, e]; rfl
          case measure => simp [intOf]; omega
        | false =>
          have HC : Hid (c ≠ sep) := Lib.hid (by simpa using hcs)
          have e1 : ((c.toNat : Int) == (sep.toNat : Int)) = false := beq_eq_false_iff_ne.2 (fun h => HC.out (UInt8.toNat_inj.1 (by omega)))
          clear hcs
          go_wp2_with fail
          go_roundw
          case rel =>
            refine ⟨k + 1, f, ys, by omega, by go_num, rfl, by omega, hfl, hown, by omega, ?_, hb⟩
            rw [HSP.out, HTA.out 1, HD.out, RdS.splitE_plain HC.out HC9.out, RdS.glue_glue]; rfl
          case measure => simp [intOf]; omega
    · have hd : l.drop k = [] := List.drop_of_length_le (by omega)
      have ht : l.take k = l := List.take_of_length_le (by omega)
      have hsp2 : RdS.splitE sep l = ys ++ [l.drop f] := by rw [hsp, hd, ht]; simp [RdS.splitE, RdS.glue]
      have HSP := Lib.hid hsp2
      clear hsp hsp2 hd ht
      go_wp2_with (at_builtin; refine push_str (by rfl) _ _ (by rfl) w.heap.size _ ys (by rfl) (hown.alloc _) wr.heap.size (by rfl) (l.drop f) ?d1 ?d2 ?d3 ?_)
      case d1 => simp [go_sem, strV, mk_extract]
      case d2 => omega
      case d3 => have := hb.size; simp; omega
      intro v' w2 hown2 hb2
      go_wp2_with fail
      go_ret
      exact ⟨_, rfl, by rw [HSP.out]; exact hown2.strs, (hb.alloc hb.size _).trans hb2⟩
end Go.Proofs.YtjjbkldlgjllnaaGreatDoor
