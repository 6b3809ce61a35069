/- The walks of Normal, Parent and Depth of a name, the program's and the document's. Conditions: the text has at most 1000000 bytes; the library's variables are laid. -/
import Derived.Test.YthmlclnjkilkmaaGreatDoorDnd
import Derived.Test.YthmlclnjkilkmaaGreatDoorMem
namespace Go.Proofs.YthmlclnjkilkmaaGreatDoor
open Go.RowKit

def NmTxt (r : List UInt8 × Int) (w : World) (e : Ending) (w' : World) : Prop := e = .returned (.tuple #[.string ⟨r.1.toArray⟩, .int .i64 r.2]) ∧ Below w.heap.size w w'
def NmPar (r : List UInt8 × Bool) (w : World) (e : Ending) (w' : World) : Prop := e = .returned (.tuple #[.string ⟨r.1.toArray⟩, .bool r.2]) ∧ Below w.heap.size w w'
def NmNum (n : Int) (w : World) (e : Ending) (w' : World) : Prop := e = .returned (.int .i64 n) ∧ Below w.heap.size w w'
def NmBool (b : Bool) (w : World) (e : Ending) (w' : World) : Prop := e = .returned (.bool b) ∧ Below w.heap.size w w'
theorem parent_none {l : List UInt8} {ts : List (List UInt8)} {e : Int} (h : DnS.textsS l = (ts, e)) (h0 : ts = []) : DnS.parentS l = ([], false) := by
  unfold DnS.parentS; rw [h, if_pos h0]
theorem parent_some {l : List UInt8} {ts : List (List UInt8)} {e : Int} (h : DnS.textsS l = (ts, e)) (h0 : ts ≠ []) : DnS.parentS l = (DnS.joinS (ts.drop 1), true) := by
  unfold DnS.parentS; rw [h, if_neg h0]
theorem texts_drop {s : List UInt8} {ts : List (List UInt8)} {e : Int} (h : DnS.textsS s = (ts, e)) : (DnS.joinS (ts.drop 1)).length ≤ 1000 := by
  have hl := (DnS.texts_len s).2
  rw [h] at hl
  cases ts with
  | nil => exact hl
  | cons t ts => exact Nat.le_trans (DnS.join_tail t ts) hl


set_option maxRecDepth 100000 in
theorem dnnormal_c (l : List UInt8) (hl : l.length ≤ 1000000) (w : World) (hE : Env w) : Calls Tryz.prog 19 #[.string ⟨l.toArray⟩] w (NmTxt (DnS.normN l) w) := by
  have hp := dnparts_c l hl w hE
  unfold PartsRet at hp
  have HN : Hid (DnS.normN l = (DnS.joinS (DnS.textsS l).1, (DnS.textsS l).2)) := Lib.hid rfl
  have hln := DnS.texts_len l
  have HE := Lib.hid (DnS.texts_each (s := l))
  generalize DnS.textsS l = T at *
  obtain ⟨ts, e0⟩ := T
  simp only at hp hln HE HN
  go_enter Tryz.func19, Tryz.ntmps19
  go_wp2_with fail
  refine hp.mono ?_; rintro e w1 ⟨v, rfl, hown, hb⟩
  obtain ⟨a, c, rfl⟩ := hown.form
  go_wp2_with fail
  refine (join_c _ ts _ hown.strs (by omega) (by omega)).mono ?_; rintro e w2 ⟨rfl, hb2⟩
  go_wp2_with fail
  go_ret2
  exact ⟨by rw [HN.out]; rfl, below_trans hb hb2⟩

set_option maxRecDepth 100000 in
theorem dndepth_c (l : List UInt8) (hl : l.length ≤ 1000000) (w : World) (hE : Env w) : Calls Tryz.prog 28 #[.string ⟨l.toArray⟩] w (NmNum (DnS.textsS l).1.length w) := by
  have hp := dnparts_c l hl w hE
  unfold PartsRet at hp
  generalize DnS.textsS l = T at *
  obtain ⟨ts, e0⟩ := T
  simp only at hp
  go_enter Tryz.func28, Tryz.ntmps28
  go_wp2_with fail
  refine hp.mono ?_; rintro e w1 ⟨v, rfl, hown, hb⟩
  obtain ⟨a, c, rfl⟩ := hown.form
  go_wp2_with fail
  go_ret
  exact ⟨rfl, hb⟩

set_option maxRecDepth 100000 in
theorem dnparent_c (l : List UInt8) (hl : l.length ≤ 1000000) (w : World) (hE : Env w) : Calls Tryz.prog 26 #[.string ⟨l.toArray⟩] w (NmPar (DnS.parentS l) w) := by
  have hp := dnparts_c l hl w hE
  unfold PartsRet at hp
  have hln := DnS.texts_len l
  have HE0 := Lib.hid (DnS.texts_each (s := l))
  obtain ⟨T, hT⟩ : ∃ T, DnS.textsS l = T := ⟨_, rfl⟩
  rw [hT] at hp hln HE0
  obtain ⟨ts, e0⟩ := T
  simp only at hp hln HE0
  have hd := texts_drop hT
  have HNO := Lib.hid (parent_none hT)
  have HYES := Lib.hid (parent_some hT)
  have HBAD : Hid (e0 ≠ 0 → ts = []) := Lib.hid (fun h => by
    have := DnS.texts_bad (s := l) (by rw [hT]; exact h)
    rw [hT] at this; exact this)
  clear hT
  go_enter Tryz.func26, Tryz.ntmps26
  go_wp2_with fail
  refine hp.mono ?_; rintro e w1 ⟨v, rfl, hown, hb⟩
  obtain ⟨a, c, rfl⟩ := hown.form
  by_cases h0 : ts = []
  · have HR := Lib.hid (HNO.out h0)
    clear HNO HYES HBAD
    subst h0
    go_wp2_with fail
    go_ret2
    exact ⟨by rw [HR.out]; rfl, hb⟩
  · have HR := Lib.hid (HYES.out h0)
    have he0 : e0 = 0 := by
      by_cases he : e0 = 0
      · exact he
      · exact absurd (HBAD.out he) h0
    subst he0
    have hpos : 0 < ts.length := by
      rcases Nat.eq_zero_or_pos ts.length with h | h
      · exact absurd (List.eq_nil_of_length_eq_zero h) h0
      · exact h
    have hs := hown.strs
    have HE : Hid (∀ t ∈ ts.drop 1, t.length ≤ 3000) := Lib.hid (fun t ht => HE0.out t (List.mem_of_mem_drop ht))
    clear HNO HYES HBAD
    have hcap : ts.length ≤ c := by
      obtain ⟨_, _, e, hc, _⟩ := hs
      cases e; exact hc
    obtain ⟨g, o, rfl, hdr⟩ := hs.drop (k := 1) (by omega) (by omega)
    have hdl : (ts.drop 1).length ≤ 100 := by rw [List.length_drop]; omega
    generalize hn : ts.length = n at *
    have HN := Lib.hid hn
    have hz : ((n : Int) == 0) = false := by simp; omega
    have hz1 : (1 : Int) ≤ (n : Int) := by omega
    have hz2 : (n : Int) ≤ (c : Int) := by omega
    clear hn h0
    by_cases hc1 : 1 = c
    · subst hc1
      have hn1 : n = 1 := by omega
      subst hn1
      have hem : ts.drop 1 = [] := List.drop_of_length_le (by rw [HN.out]; exact Nat.le_refl _)
      rw [hem] at HR HE hd
      clear hdr hem
      go_wp2_with fail
      refine (join_c _ [] _ (StrsIn.nil _ _ _) (by simp) (by omega)).mono ?_; rintro e w2 ⟨rfl, hb2⟩
      go_wp2_with fail
      go_ret2
      exact ⟨by rw [HR.out]; rfl, below_trans hb hb2⟩
    · have hc2 : (1 : Int) < (c : Int) := by omega
      have hc3 : ¬ c = 1 := fun h => hc1 h.symm
      generalize ts.drop 1 = ds at *
      go_wp2_with fail
      refine (join_c _ ds _ hdr (by omega) (by omega)).mono ?_; rintro e w2 ⟨rfl, hb2⟩
      go_wp2_with fail
      go_ret2
      exact ⟨by rw [HR.out]; rfl, below_trans hb hb2⟩


set_option maxRecDepth 100000 in
theorem rnnormal_c (l : List UInt8) (hl : l.length ≤ 1000000) (w : World) (hE : Env w) : Calls Tryz.prog 20 #[.string ⟨l.toArray⟩] w (NmTxt (DnS.normN l) w) := by
  have hp := refparts_c l hl w hE
  unfold PartsRet at hp
  have HN : Hid (DnS.normN l = (DnS.joinS (DnS.textsS l).1, (DnS.textsS l).2)) := Lib.hid rfl
  have hln := DnS.texts_len l
  have HE := Lib.hid (DnS.texts_each (s := l))
  generalize DnS.textsS l = T at *
  obtain ⟨ts, e0⟩ := T
  simp only at hp hln HE HN
  go_enter Tryz.func20, Tryz.ntmps20
  go_wp2_with fail
  refine hp.mono ?_; rintro e w1 ⟨v, rfl, hown, hb⟩
  obtain ⟨a, c, rfl⟩ := hown.form
  go_wp2_with fail
  refine (joined_c _ ts _ hown.strs (by omega) HE.out).mono ?_; rintro e w2 ⟨rfl, rfl⟩
  go_wp2_with fail
  go_ret2
  exact ⟨by rw [HN.out]; rfl, hb⟩

set_option maxRecDepth 100000 in
theorem rndepth_c (l : List UInt8) (hl : l.length ≤ 1000000) (w : World) (hE : Env w) : Calls Tryz.prog 29 #[.string ⟨l.toArray⟩] w (NmNum (DnS.textsS l).1.length w) := by
  have hp := refparts_c l hl w hE
  unfold PartsRet at hp
  generalize DnS.textsS l = T at *
  obtain ⟨ts, e0⟩ := T
  simp only at hp
  go_enter Tryz.func29, Tryz.ntmps29
  go_wp2_with fail
  refine hp.mono ?_; rintro e w1 ⟨v, rfl, hown, hb⟩
  obtain ⟨a, c, rfl⟩ := hown.form
  go_wp2_with fail
  go_ret
  exact ⟨rfl, hb⟩

set_option maxRecDepth 100000 in
theorem rnparent_c (l : List UInt8) (hl : l.length ≤ 1000000) (w : World) (hE : Env w) : Calls Tryz.prog 27 #[.string ⟨l.toArray⟩] w (NmPar (DnS.parentS l) w) := by
  have hp := refparts_c l hl w hE
  unfold PartsRet at hp
  have hln := DnS.texts_len l
  have HE0 := Lib.hid (DnS.texts_each (s := l))
  obtain ⟨T, hT⟩ : ∃ T, DnS.textsS l = T := ⟨_, rfl⟩
  rw [hT] at hp hln HE0
  obtain ⟨ts, e0⟩ := T
  simp only at hp hln HE0
  have hd := texts_drop hT
  have HNO := Lib.hid (parent_none hT)
  have HYES := Lib.hid (parent_some hT)
  have HBAD : Hid (e0 ≠ 0 → ts = []) := Lib.hid (fun h => by
    have := DnS.texts_bad (s := l) (by rw [hT]; exact h)
    rw [hT] at this; exact this)
  clear hT
  go_enter Tryz.func27, Tryz.ntmps27
  go_wp2_with fail
  refine hp.mono ?_; rintro e w1 ⟨v, rfl, hown, hb⟩
  obtain ⟨a, c, rfl⟩ := hown.form
  by_cases h0 : ts = []
  · have HR := Lib.hid (HNO.out h0)
    clear HNO HYES HBAD
    subst h0
    by_cases he : e0 = 0
    · subst he
      go_wp2_with fail
      go_ret2
      exact ⟨by rw [HR.out]; rfl, hb⟩
    have hez : (e0 != 0) = true := by simpa using he
    go_wp2_with fail
    go_ret2
    exact ⟨by rw [HR.out]; rfl, hb⟩
  · have HR := Lib.hid (HYES.out h0)
    have he0 : e0 = 0 := by
      by_cases he : e0 = 0
      · exact he
      · exact absurd (HBAD.out he) h0
    subst he0
    have hpos : 0 < ts.length := by
      rcases Nat.eq_zero_or_pos ts.length with h | h
      · exact absurd (List.eq_nil_of_length_eq_zero h) h0
      · exact h
    have hs := hown.strs
    have HE : Hid (∀ t ∈ ts.drop 1, t.length ≤ 3000) := Lib.hid (fun t ht => HE0.out t (List.mem_of_mem_drop ht))
    clear HNO HYES HBAD
    have hcap : ts.length ≤ c := by
      obtain ⟨_, _, e, hc, _⟩ := hs
      cases e; exact hc
    obtain ⟨g, o, rfl, hdr⟩ := hs.drop (k := 1) (by omega) (by omega)
    have hdl : (ts.drop 1).length ≤ 100 := by rw [List.length_drop]; omega
    generalize hn : ts.length = n at *
    have HN := Lib.hid hn
    have hz : ((n : Int) == 0) = false := by simp; omega
    have hz1 : (1 : Int) ≤ (n : Int) := by omega
    have hz2 : (n : Int) ≤ (c : Int) := by omega
    clear hn h0
    by_cases hc1 : 1 = c
    · subst hc1
      have hn1 : n = 1 := by omega
      subst hn1
      have hem : ts.drop 1 = [] := List.drop_of_length_le (by rw [HN.out]; exact Nat.le_refl _)
      rw [hem] at HR HE hd
      clear hdr hem
      go_wp2_with fail
      refine (joined_c _ [] _ (StrsIn.nil _ _ _) (by simp) HE.out).mono ?_; rintro e w2 ⟨rfl, rfl⟩
      go_wp2_with fail
      go_ret2
      exact ⟨by rw [HR.out]; rfl, hb⟩
    · have hc2 : (1 : Int) < (c : Int) := by omega
      have hc3 : ¬ c = 1 := fun h => hc1 h.symm
      generalize ts.drop 1 = ds at *
      go_wp2_with fail
      refine (joined_c _ ds _ hdr (by omega) HE.out).mono ?_; rintro e w2 ⟨rfl, rfl⟩
      go_wp2_with fail
      go_ret2
      exact ⟨by rw [HR.out]; rfl, hb⟩

end Go.Proofs.YthmlclnjkilkmaaGreatDoor
