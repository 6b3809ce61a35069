/- Names of parts that come in: printed, and read again (plain); the walks of the program's 'Print' and of the document's 'PrintName'. Conditions: those that each theorem states; the library's variables are laid. -/
import Derived.Test.YtadhkemdndcjlaaGreatDoorDnd
namespace Go.Proofs.YtadhkemdndcjlaaGreatDoor.DnS
open Go.Lib RdS
/-- a part's text, and that of a list of parts, or none -/
def ptext (l : List Pr) : List UInt8 := textTo l l.length
def printN (l : List (List Pr)) : List UInt8 × Int := if 12 < l.length then ([], 1) else if l.all formedS = true then fitS (l.map ptext) else ([], 1)
theorem ptext_small {l : List Pr} (h : formedS l = true) : (ptext l).length ≤ 3000 := text_small h _ (Nat.le_refl _)
theorem printS_yes {l : List Pr} (h : formedS l = true) : printS l = (ptext l, 0) := by unfold printS; rw [if_pos h]; rfl
theorem printS_no {l : List Pr} (h : formedS l = false) : printS l = ([], 1) := by unfold printS; rw [if_neg (by simp [h])]
theorem ptext_noSep {l : List Pr} (h : formedS l = true) : NoSep 44 (ptext l) := formed_noSep (by decide) (by decide) (by decide) (by decide) h
theorem ptext_ne {l : List Pr} (h : formedS l = true) : ptext l ≠ [] := by
  intro h0
  have hb : partS (ptext l) = (l, 0) := part_back h
  rw [h0] at hb
  have : partS [] = ([], 2) := by decide +kernel
  rw [this] at hb
  have h2 := congrArg Prod.snd hb
  exact absurd (show (2 : Int) = 0 from h2) (by decide)
theorem partsS_print : ∀ {l : List (List Pr)}, (∀ q ∈ l, formedS q = true) → partsS (l.map ptext) = some l
  | [], _ => rfl
  | q :: l, h => by
    have hb : partS (ptext q) = (q, 0) := part_back (h q (List.mem_cons_self ..))
    rw [List.map_cons]
    unfold partsS
    rw [hb, if_pos rfl, partsS_print (fun p hp => h p (List.mem_cons_of_mem _ hp))]
    rfl
/-- what was printed is read as it was -/
theorem print_back {l : List (List Pr)} {s : List UInt8} (h : printN l = (s, 0)) : nameS s = (l, 0) := by
  unfold printN at h
  split at h
  · cases h
  · split at h
    · rename_i hn hf
      have hf : ∀ q ∈ l, formedS q = true := fun q hq => List.all_eq_true.1 hf q hq
      obtain ⟨-, hl, rfl⟩ := fit_yes h
      cases l with
      | nil => simp [joinS, Lib.join, List.intercalate, nameS]
      | cons q l =>
        have hq := ptext_ne (hf q (List.mem_cons_self ..))
        have hsp : splitE 44 (joinS ((q :: l).map ptext)) = (q :: l).map ptext := by
          refine split_join _ (by simp) (fun p hp => ?_)
          obtain ⟨r, hr, rfl⟩ := List.mem_map.1 hp
          exact ptext_noSep (hf r hr)
        have hne : joinS ((q :: l).map ptext) ≠ [] := by
          intro h0
          rw [h0] at hsp
          simp only [splitE, List.map_cons] at hsp
          exact hq (List.cons.inj hsp).1.symm
        unfold nameS
        rw [if_neg (by omega), if_neg hne, hsp, if_neg (by rw [List.length_map]; omega), partsS_print hf]
    · cases h
theorem printN_many {l : List (List Pr)} (h : 12 < l.length) : printN l = ([], 1) := by unfold printN; rw [if_pos h]
theorem printN_no {l : List (List Pr)} {k : Nat} (hk : k < l.length) (h : formedS l[k] = false) : printN l = ([], 1) := by
  unfold printN
  split
  · rfl
  · rw [if_neg]
    intro ha
    rw [List.all_eq_true.1 ha _ (List.getElem_mem hk)] at h
    cases h
theorem printN_yes {l : List (List Pr)} (hn : ¬ 12 < l.length) (h : l.all formedS = true) : printN l = fitS (l.map ptext) := by unfold printN; rw [if_neg hn, if_pos h]
theorem all_step {l : List (List Pr)} {k : Nat} (hk : k < l.length) (h : (l.take k).all formedS = true) (h2 : formedS l[k] = true) : (l.take (k + 1)).all formedS = true := by
  rw [List.take_succ_eq_append_getElem hk, List.all_append, h]
  simp [h2]
theorem ptexts_small {l : List (List Pr)} (h : l.all formedS = true) : ∀ t ∈ l.map ptext, t.length ≤ 3000 := by
  intro t ht
  obtain ⟨q, hq, rfl⟩ := List.mem_map.1 ht
  exact ptext_small (List.all_eq_true.1 h q hq)
end Go.Proofs.YtadhkemdndcjlaaGreatDoor.DnS
