/- The walks of what a subject sees of names: the program's Seen and the document's. Conditions: those that each theorem states; the library's variables are laid. -/
import Derived.Deep.DeepCutAuto
import Derived.Test.YtdcljilfnkmloaaGreatDoorSFmc
import Derived.Test.YtdcljilfnkmloaaGreatDoorSPoq
namespace Go.Proofs.YtdcljilfnkmloaaGreatDoor
open Go.RowKit

def strOf : Value → List UInt8
  | .string b => b.data.toList
  | _ => []
/-- parts of a name -/
def PartsOk (r : List (List UInt8)) : Prop := r.length ≤ 12 ∧ (DnS.joinS r).length ≤ 1000 ∧ ∀ t ∈ r, DnS.PartT t
theorem PartsOk.texts {r : List (List UInt8)} (h : PartsOk r) : DnS.textsS (DnS.joinS r) = (r, 0) := DnS.texts_of h.2.2 h.1 h.2.1
theorem PartsOk.tail {t : List UInt8} {r : List (List UInt8)} (h : PartsOk (t :: r)) : PartsOk r :=
  ⟨by have := h.1; rw [List.length_cons] at this; omega, Nat.le_trans (DnS.join_tail t r) h.2.1, fun x hx => h.2.2 x (List.mem_cons_of_mem _ hx)⟩
theorem PartsOk.ne {t : List UInt8} {r : List (List UInt8)} (h : PartsOk (t :: r)) : DnS.joinS (t :: r) ≠ [] := fun e => by
  have h1 := h.texts
  rw [e] at h1
  have h2 : DnS.textsS [] = ([], 0) := by decide +kernel
  rw [h2] at h1
  have := congrArg Prod.fst h1
  cases this
theorem PartsOk.parent {t : List UInt8} {r : List (List UInt8)} (h : PartsOk (t :: r)) : DnS.parentS (DnS.joinS (t :: r)) = (DnS.joinS r, true) := by
  unfold DnS.parentS
  rw [h.texts]
  simp
theorem partsOk_of {n : List UInt8} (h : DnS.normN n = (n, 0)) : PartsOk (DnS.textsS n).1 ∧ DnS.joinS (DnS.textsS n).1 = n := by
  have h2 := EnS.texts_of_norm h
  have h3 : DnS.textsS n = ((DnS.textsS n).1, 0) := by rw [← h2.1]
  exact ⟨DnS.parts_of h3, h2.2⟩
set_option maxRecDepth 100000 in
set_option maxHeartbeats 1000000 in
theorem seen_c (v : Value) (xs : List PoS.Rl) (subject : List UInt8) (r0 : List (List UInt8)) (hr0 : PartsOk r0) (w : World) (hE : Env w) (h : RulesIn w v xs) (hs : ∀ r ∈ xs, SmallR r) (hl : xs.length ≤ 1000000) (q1 : subject.length ≤ 100000) :
    Calls Tryz.prog 105 #[v, .string ⟨subject.toArray⟩, .string ⟨(DnS.joinS r0).toArray⟩] w (NmBool (EnS.seenT xs subject r0) w) := by
  have hd := fun n w (hn : n.length ≤ 1000) h hE => polDecide_c v xs subject n [] 1 w h hs hl q1 (by omega) (by simp) hE
  have hp := fun n w (hn : n.length ≤ 1000) hE => dnparent_c n (by omega) w hE
  unfold NmBool at hd
  unfold NmPar at hp
  have HS : Hid (∀ t r, EnS.seenT xs subject (t :: r) = (PoS.decideS xs subject 1 (DnS.joinS (t :: r)) [] && EnS.seenT xs subject r)) := Lib.hid fun _ _ => rfl
  have HSN : Hid (EnS.seenT xs subject [] = true) := Lib.hid rfl
  have HJN : Hid (DnS.joinS [] = []) := Lib.hid rfl
  obtain ⟨p0, c0, rfl⟩ := h.form
  have hin := h
  have HR : Hid (EnS.seenT xs subject r0 = EnS.seenT xs subject r0) := Lib.hid rfl
  generalize hRR : EnS.seenT xs subject r0 = R at HR ⊢
  have HR0 : Hid (R = EnS.seenT xs subject r0) := Lib.hid hRR.symm
  clear hRR HR h hs hl
  go_enter Tryz.func105, Tryz.ntmps105
  go_wp2_with fail
  go_loopw [2] (fun s wr => ∃ r : List (List UInt8), PartsOk r ∧ s = .string ⟨(DnS.joinS r).toArray⟩ ∧ Hid (R = EnS.seenT xs subject r) ∧ Below w.heap.size w wr) (fun s _ => (DnS.textsS (strOf s)).1.length)
  case atStart => exact ⟨r0, hr0, rfl, HR0, Below.refl _ _⟩
  case round =>
    obtain ⟨r, hr, rfl, HA, hb⟩ := hrel
    clear HR0
    cases r with
    | nil =>
      have HZ : Hid (R = true) := Lib.hid (by rw [HA.out, HSN.out])
      rw [HJN.out]
      go_wp2_with fail
      go_ret
      exact ⟨by rw [HZ.out]; rfl, hb⟩
    | cons t r =>
      have HT := Lib.hid hr.texts
      have HTT := Lib.hid hr.tail
      have hne := hr.ne
      have hpar := hr.parent
      have hjl := hr.2.1
      have HS1 := Lib.hid (HS.out t r)
      have hd1 := hd _ wr hjl (hin.call hb (Nat.le_refl _)) (hE.below hb)
      have hp1 := fun w hE => hp (DnS.joinS (t :: r)) w hjl hE
      rw [hpar] at hp1
      simp only at hp1
      clear hpar hr
      generalize PoS.decideS xs subject 1 (DnS.joinS (t :: r)) [] = D at *
      generalize hJ : DnS.joinS (t :: r) = J at *
      have e0 : (J == []) = false := by cases J <;> simp_all
      have e1 : J.isEmpty = false := by cases J <;> simp_all
      have HJ := Lib.hid hJ
      clear hJ hne hd hp
      cases D with
      | false =>
        have HZ : Hid (R = false) := Lib.hid (by rw [HA.out, HS1.out]; rfl)
        go_wp2_with fail
        refine hd1.mono ?_; rintro e w1 ⟨rfl, hb1⟩
        go_wp2_with fail
        go_ret
        exact ⟨by rw [HZ.out]; rfl, hb.trans (hb1.mono hb.size)⟩
      | true =>
        have HZ : Hid (R = EnS.seenT xs subject r) := Lib.hid (by rw [HA.out, HS1.out]; rfl)
        go_wp2_with fail
        refine hd1.mono ?_; rintro e w1 ⟨rfl, hb1⟩
        have hz1 := hb.trans (hb1.mono hb.size)
        have hp2 := hp1 w1 (hE.below hz1)
        clear hp1 hd1
        go_wp2_with fail
        refine hp2.mono ?_; rintro e w2 ⟨rfl, hb2⟩
        go_wp2_with fail
        go_roundw
        case rel => exact ⟨r, HTT.out, rfl, HZ, hz1.trans (hb2.mono hz1.size)⟩
        case measure =>
          show (DnS.textsS (DnS.joinS r)).1.length < (DnS.textsS J).1.length
          rw [HT.out, HTT.out.texts]; simp

end Go.Proofs.YtdcljilfnkmloaaGreatDoor
