/- The walks of what makes an entry formed: the document's alone and named. Conditions: an entry has at most 1048576 attributes of as many values each, of at most 1000000 bytes; the library's variables are laid. -/
import Derived.BigQuiet
import Derived.Deep.DrawnRows
import Derived.Test.YtdcljilfnkmloaaGreatDoorEEna
import Derived.Test.YtdcljilfnkmloaaGreatDoorEFma
namespace Go.Proofs.YtdcljilfnkmloaaGreatDoor
open Go.RowKit

attribute [local go_sem ↓] Go.wp_at_zero Go.wp_at_succ
theorem lost_succ {f : RdS.Pr → Bool} {l : List RdS.Pr} {k : Nat} (hk : k < l.length) : (l.drop k).all f = (f l[k] && (l.drop (k + 1)).all f) := by
  rw [List.drop_eq_getElem_cons hk, List.all_cons]
theorem lost_end {f : RdS.Pr → Bool} {l : List RdS.Pr} {k : Nat} (hk : l.length ≤ k) : (l.drop k).all f = true := by
  rw [List.drop_eq_nil_of_le hk]; rfl
/-- the document's: a name that is one, and is among the attributes -/
def namedR (e : EnS.En) : Bool := decide ((DnS.nameS e.name).2 = 0) && decide ((DnS.nameS e.name).1 ≠ []) && EnS.namedS e
theorem namedR_bad {e : EnS.En} (h : (DnS.nameS e.name).2 ≠ 0) : namedR e = false := by unfold namedR; rw [decide_eq_false h]; rfl
theorem namedR_nil {e : EnS.En} (h : (DnS.nameS e.name).1 = []) : namedR e = false := by unfold namedR; simp [h]
theorem namedR_cons {e : EnS.En} {p : List RdS.Pr} {r : List (List RdS.Pr)} (h : DnS.nameS e.name = (p :: r, 0)) : namedR e = (p.drop 0).all (fun q => EnS.hasS e q.1 q.2) := by
  unfold namedR EnS.namedS EnS.pairsS
  rw [h]
  simp
set_option maxRecDepth 100000 in
set_option maxHeartbeats 1000000 in
theorem refnamed_c (name : List UInt8) (xs : List EnS.At) (u : Value) (w : World) (hE : Env w) (hu : AttrsIn w u xs) (hf : FitA xs) (hn : name.length ≤ 1000000) :
    Calls Tryz.prog 36 #[.agg #[.string ⟨name.toArray⟩, u]] w (NmBool (namedR ⟨name, xs⟩) w) := by
  have hb0 := grow1 w (.cells #[.string ⟨name.toArray⟩, u] 26)
  have hw0 := Whole.made w 26 #[.string ⟨name.toArray⟩, u]
  have hp := refname_c name hn _ (hE.below hb0)
  have hu0 := hu.call hb0
  have hE0 := hE.below hb0
  have hha := fun n v w hE h hn hv => refhas_c name xs u n v w hE h hf hn hv
  unfold NameRet at hp
  unfold NmBool at hha
  have HB := Lib.hid (namedR_bad (e := ⟨name, xs⟩))
  have HN0 := Lib.hid (namedR_nil (e := ⟨name, xs⟩))
  have HC : Hid (∀ p r, DnS.nameS name = (p :: r, 0) → namedR ⟨name, xs⟩ = (p.drop 0).all (fun q => EnS.hasS ⟨name, xs⟩ q.1 q.2)) := Lib.hid (fun p r h => namedR_cons (e := ⟨name, xs⟩) h)
  have HSM := Lib.hid (pairs_small name)
  unfold EnS.pairsS at HSM
  generalize namedR ⟨name, xs⟩ = R at *
  generalize DnS.nameS name = P at *
  obtain ⟨ls, e0⟩ := P
  simp only at hp HB HN0 HSM
  obtain ⟨ua, uc, rfl, huc⟩ := SliceP.form hu
  go_enter Tryz.func36, Tryz.ntmps36
  go_wp2_with fail
  refine hp.mono ?_; rintro e w1 ⟨v1, rfl, hv1, hb1⟩
  have hz := below_trans hb0 hb1
  obtain ⟨a, c, rfl, hlc, hcase⟩ := hv1.at
  by_cases he : e0 = 0
  case neg =>
    have hez : (e0 != 0) = true := by simpa using he
    have HQ : Hid (R = false) := Lib.hid (HB.out he)
    go_wp2_with fail
    go_ret
    exact ⟨by rw [HQ.out]; rfl, hz⟩
  subst he
  cases ls with
  | nil =>
    have HQ : Hid (R = false) := Lib.hid (HN0.out rfl)
    simp only [List.length_nil]
    go_wp2_with fail
    go_ret
    exact ⟨by rw [HQ.out]; rfl, hz⟩
  | cons p r =>
  have hl0 : (((p :: r).length : Int) == 0) = false := by rw [List.length_cons]; simp; omega
  have hl1 : decide (((p :: r).length : Int) = 0) = false := decide_eq_false (by rw [List.length_cons]; omega)
  have hl2 : (0 : Int) < ((p :: r).length : Int) := by rw [List.length_cons]; omega
  have HR : Hid (R = (p.drop 0).all (fun q => EnS.hasS ⟨name, xs⟩ q.1 q.2)) := Lib.hid (HC.out p r rfl)
  have HS2 : Hid (p.length ≤ 3 ∧ ∀ q ∈ p, q.1.length ≤ 17 ∧ q.2.length ≤ 200) := Lib.hid HSM.out
  rcases hcase with hcase | ⟨g, o, rfl, hg, hcell⟩
  · cases hcase
  obtain ⟨u1, hu1, hin⟩ := hcell 0 p rfl
  rw [Nat.add_zero] at hu1
  obtain ⟨a2, c2, rfl, hc2, hat⟩ := AvasIn.atk hin
  have HAT := Lib.hid hat
  have hw1 := hw0.call hb1
  have q0 := hw1.cell 0
  have q1 := hw1.cell 1
  simp only [List.getElem?_toArray, List.getElem?_cons_zero, List.getElem?_cons_succ] at q0 q1
  have hu1w := hu0.call hb1
  have hE1 := hE0.below hb1
  clear hcell hin hat HC HSM HB HN0 hw1 hw0 hu0 hE0 hb0 hb1 hlc
  have HLK := Lib.hid (fun k (hk : k < p.length) => lost_succ (f := fun q => EnS.hasS ⟨name, xs⟩ q.1 q.2) hk)
  have HLE := Lib.hid (fun k (hk : p.length ≤ k) => lost_end (f := fun q => EnS.hasS ⟨name, xs⟩ q.1 q.2) hk)
  generalize (p :: r).length = L at *
  generalize hnn : p.length = m at hc2 hu1 ⊢
  have HN := Lib.hid hnn
  have hm : m ≤ 3 := by rw [← hnn]; exact HS2.out.1
  clear hnn
  generalize xs.length = xl at *
  go_wp2_with fail
  go_loopw [23] (fun i wr => ∃ k : Nat, k ≤ m ∧ i = .int .i64 k ∧ Hid (R = (p.drop k).all (fun q => EnS.hasS ⟨name, xs⟩ q.1 q.2)) ∧ Below w1.heap.size w1 wr) (fun i _ => m - (intOf i).toNat)
  case atStart => exact ⟨0, Nat.zero_le _, rfl, HR, Below.refl _ _⟩
  case round =>
    obtain ⟨k, hk, rfl, HA, hb⟩ := hrel
    clear HR
    by_cases hlt : k < m
    · have hlt2 : k < p.length := by rw [HN.out]; exact hlt
      obtain ⟨g2, o2, rfl, hg2, c0, c1⟩ := HAT.out k hlt2
      have HS := Lib.hid (HLK.out k hlt2)
      have hsm := HS2.out.2 p[k] (List.getElem_mem hlt2)
      generalize p[k] = x at *
      obtain ⟨n, v⟩ := x
      unfold strV at c0 c1
      simp only at c0 c1 HS hsm
      have hbd : Below w1.heap.size w1 wr.drew := hb.drew
      have d0 : wr.drew.cell? ⟨g2, o2 + k * 2, none⟩ = some (.string ⟨n.toArray⟩) := keepC c0 hbd
      have d1 : wr.drew.cell? ⟨g2, o2 + k * 2 + 1, none⟩ = some (.string ⟨v.toArray⟩) := keepC c1 hbd
      have d2 : wr.drew.cell? ⟨g, o, none⟩ = some (.slice (some ⟨g2, o2, none⟩) m c2) := keepC hu1 hbd
      have d3 : wr.drew.cell? ⟨w.heap.size, 0, none⟩ = some (.string ⟨name.toArray⟩) := keepC q0 hbd
      have d4 : wr.drew.cell? ⟨w.heap.size, 1, none⟩ = some (.slice ua xl uc) := keepC q1 hbd
      have hcl := hha n v wr.drew (hE1.below hbd) (hu1w.call hbd) (by omega) (by omega)
      generalize EnS.hasS ⟨name, xs⟩ n v = I at *
      have i0 : (0 : Int) ≤ (k : Int) := by omega
      have i1 : (k : Int) < (m : Int) := by omega
      have i2 : 0 < L := by omega
      clear hlt2 HLK HLE HAT c0 c1 hsm hu1 q0 q1 hp hv1
      go_wp2_with fail
      go_region_held3 (fun W => W.cell? ⟨g2, o2 + k * 2, none⟩ = some (.string ⟨n.toArray⟩) ∧ W.cell? ⟨g2, o2 + k * 2 + 1, none⟩ = some (.string ⟨v.toArray⟩) ∧ W.cell? ⟨g, o, none⟩ = some (.slice (some ⟨g2, o2, none⟩) m c2) ∧ W.cell? ⟨w.heap.size, 0, none⟩ = some (.string ⟨name.toArray⟩) ∧ W.cell? ⟨w.heap.size, 1, none⟩ = some (.slice ua xl uc)) (first | exact ⟨d0, d1, d2, d3, d4⟩ | exact ⟨keepC d0 hb2, keepC d1 hb2, keepC d2 hb2, keepC d3 hb2, keepC d4 hb2⟩ | go_keep)
        (first | (go_at_call 48; (with_reducible refine hcl.mono ?_); rintro e w2 ⟨rfl, hb2⟩))
      cases I with
      | false =>
        have HQ : Hid (R = false) := Lib.hid (by rw [HA.out, HS.out]; rfl)
        go_wp2_with fail
        go_ret
        exact ⟨by rw [HQ.out]; rfl, below_trans hz (hbd.trans (hb2.mono hbd.size))⟩
      | true =>
        have HQ : Hid (R = (p.drop (k + 1)).all (fun q => EnS.hasS ⟨name, xs⟩ q.1 q.2)) := Lib.hid (by rw [HA.out, HS.out]; rfl)
        go_wp2_with fail
        go_roundw
        case rel => exact ⟨k + 1, by omega, by go_num, HQ, hbd.trans (hb2.mono hbd.size)⟩
        case measure => simp [intOf]; omega
    · have HALL : Hid (R = true) := Lib.hid (by rw [HA.out]; exact HLE.out k (by rw [HN.out]; omega))
      go_wp2_with fail
      go_ret
      exact ⟨by rw [HALL.out]; rfl, below_trans hz hb⟩
end Go.Proofs.YtdcljilfnkmloaaGreatDoor
