/- The walks of what makes an entry formed: the document's alone and named. Conditions: an entry has at most 1048576 attributes of as many values each, of at most 1000000 bytes; the library's variables are laid. The walks of what makes an entry formed: the document's Loose and Formed. Conditions: an entry has at most 1048576 attributes of as many values each, of at most 1000000 bytes; the library's variables are laid. -/
import Derived.BigQuiet
import Derived.Deep.DrawnRows
import Derived.Test.YtmnhgbkdahdoiaaGreatDoorMEna
import Derived.Test.YtmnhgbkdahdoiaaGreatDoorMFma
namespace Go.Proofs.YtmnhgbkdahdoiaaGreatDoor
open Go.RowKit

theorem any_found2 {nm : List UInt8} {l : List (List UInt8)} {k : Nat} (hk : k < l.length) (b : Bool) (h : b = EnS.withinS nm (l.take k) l[k]) : EnS.aloneF nm (l.take k) (l.drop k) = (!b && EnS.aloneF nm (l.take (k + 1)) (l.drop (k + 1))) := by
  rw [h]; exact EnS.alone_at hk
attribute [local go_sem ↓] Go.wp_at_zero Go.wp_at_succ
set_option maxRecDepth 100000 in
set_option maxHeartbeats 1000000 in
theorem enalone_c (nm : List UInt8) (v : Value) (xs : List (List UInt8)) (w : World) (hE : Env w) (hn : nm.length ≤ 1048576) (h : StrsIn w v xs) (hl : xs.length ≤ 1048576) (hx : ∀ x ∈ xs, x.length ≤ 1000000) :
    Calls Tryz.prog 58 #[.string ⟨nm.toArray⟩, v] w (NmBool (EnS.aloneS nm xs) w) := by
  have hP := h.strsP (fun _ => True) (fun _ _ => trivial)
  obtain ⟨a, c, rfl, hc, hat⟩ := SliceP.at hP
  have HAT := Lib.hid hat
  have HX := Lib.hid (fun k (h : k < xs.length) => hx xs[k] (List.getElem_mem h))
  have HIN := Lib.hid (fun (k : Nat) (hk : k ≤ xs.length) => StrsP.strs (ok := fun _ => True) (SliceP.take hP hk))
  have HTL := Lib.hid (fun (k : Nat) (hk : k ≤ xs.length) => show (xs.take k).length = k from by rw [List.length_take]; omega)
  have HTM := Lib.hid (fun (k : Nat) (x : List UInt8) (h : x ∈ xs.take k) => hx x (List.mem_of_mem_take h))
  have HFC := fun u k x w hE (hx : x.length ≤ 1000000) h h1 => enwithin_c nm x u (xs.take k) w hE hn hx h h1 (HTM.out k)
  unfold NmBool at HFC
  have HST := Lib.hid (fun (k : Nat) (hk : k < xs.length) => any_found2 (nm := nm) (l := xs) hk)
  have HEN := Lib.hid (fun (k : Nat) (hk : xs.length ≤ k) => EnS.alone_end (nm := nm) (l := xs) hk)
  have HR : Hid (EnS.aloneS nm xs = EnS.aloneF nm (xs.take 0) (xs.drop 0)) := Lib.hid rfl
  generalize EnS.aloneS nm xs = R at *
  clear hat hx h hP HTM
  generalize hnn : xs.length = m at hc hl ⊢
  have HN := Lib.hid hnn
  clear hnn
  go_enter Tryz.func58, Tryz.ntmps58
  go_wp2_with fail
  go_loopw [8] (fun i wr => ∃ k : Nat, k ≤ m ∧ i = .int .i64 k ∧ Hid (R = EnS.aloneF nm (xs.take k) (xs.drop k)) ∧ Below w.heap.size w wr) (fun i _ => m - (intOf i).toNat)
  case atStart => exact ⟨0, Nat.zero_le _, rfl, HR, Below.refl _ _⟩
  case round =>
    obtain ⟨k, hk, rfl, HA, hb⟩ := hrel
    clear HR
    by_cases hlt : k < m
    · have hlt2 : k < xs.length := by rw [HN.out]; exact hlt
      obtain ⟨g, o, rfl, hg, _, hra⟩ := HAT.out k hlt2
      have c0 : wr.cell? ⟨g, o + k, none⟩ = some (strV xs[k]) := by
        have : w.cell? ⟨g, o + k * 1, none⟩ = some (strV xs[k]) := hra
        rw [Nat.mul_one] at this
        exact keepC this hb
      have hxl := HX.out k hlt2
      have HS := Lib.hid (HST.out k hlt2)
      have hin := HIN.out k (Nat.le_of_lt hlt2)
      have hbd : Below w.heap.size w wr.drew := hb.drew
      have hin2 := hin.call hbd (Nat.le_refl _)
      have hcl := HFC _ k xs[k] wr.drew (hE.below hbd) hxl hin2 (by rw [HTL.out k (Nat.le_of_lt hlt2)]; omega)
      generalize xs[k] = x at *
      unfold strV at c0
      generalize EnS.withinS nm (xs.take k) x = I at *
      have HS2 := Lib.hid (HS.out I rfl)
      have c0d : wr.drew.cell? ⟨g, o + k, none⟩ = some (.string ⟨x.toArray⟩) := c0
      have i0 : (0 : Int) ≤ (k : Int) := by omega
      have i1 : (k : Int) ≤ (m : Int) := by omega
      have i2 : (k : Int) ≤ (c : Int) := by omega
      have i3 : (k : Int) < (m : Int) := by omega
      clear hra hlt2 HST HEN hin hin2 HS HFC HIN
      go_wp2_with fail
      go_region_held3 (fun W => W.cell? ⟨g, o + k, none⟩ = some (.string ⟨x.toArray⟩)) (first | exact c0d | exact keepC c0d hb2 | go_keep)
        (first | (go_at_call 56; (with_reducible refine hcl.mono ?_); rintro e w2 ⟨rfl, hb2⟩))
      cases I with
      | true =>
        have HQ : Hid (R = false) := Lib.hid (by rw [HA.out, HS2.out]; rfl)
        go_wp2_with fail
        go_ret
        exact ⟨by rw [HQ.out]; rfl, hbd.trans (hb2.mono hbd.size)⟩
      | false =>
        have HQ : Hid (R = EnS.aloneF nm (xs.take (k + 1)) (xs.drop (k + 1))) := Lib.hid (by rw [HA.out, HS2.out]; rfl)
        go_wp2_with fail
        go_roundw
        case rel => exact ⟨k + 1, by omega, by go_num, HQ, hbd.trans (hb2.mono hbd.size)⟩
        case measure => simp [intOf]; omega
    · have HALL : Hid (R = true) := Lib.hid (by rw [HA.out]; exact HEN.out k (by rw [HN.out]; omega))
      go_wp2_with fail
      go_ret
      exact ⟨by rw [HALL.out]; rfl, hb⟩

theorem lost_succ {f : RdS.Pr → Bool} {l : List RdS.Pr} {k : Nat} (hk : k < l.length) : (l.drop k).all f = (f l[k] && (l.drop (k + 1)).all f) := by
  rw [List.drop_eq_getElem_cons hk, List.all_cons]
theorem lost_end {f : RdS.Pr → Bool} {l : List RdS.Pr} {k : Nat} (hk : l.length ≤ k) : (l.drop k).all f = true := by
  rw [List.drop_eq_nil_of_le hk]; rfl
/-- the document's: a name that is one, and is among the attributes -/
def namedR (e : EnS.En) : Bool := decide ((DnS.nameS e.name).2 = 0) && decide ((DnS.nameS e.name).1 ≠ []) && EnS.namedS e
theorem namedR_bad {e : EnS.En} (h : (DnS.nameS e.name).2 ≠ 0) : namedR e = false := by unfold namedR; rw [decide_eq_false h]; rfl
theorem namedR_nil {e : EnS.En} (h : (DnS.nameS e.name).1 = []) : namedR e = false := by unfold namedR; simp [h]
theorem namedR_cons {e : EnS.En} {p : List RdS.Pr} {r : List (List RdS.Pr)} (h : DnS.nameS e.name = (p :: r, 0)) : namedR e = (p.drop 0).all (fun q => EnS.hasS e q.1 q.2) := by
  unfold namedR EnS.namedS EnS.pairsS
  rw [h]
  simp
set_option maxRecDepth 100000 in
set_option maxHeartbeats 1000000 in
theorem refnamed_c (name : List UInt8) (xs : List EnS.At) (u : Value) (w : World) (hE : Env w) (hu : AttrsIn w u xs) (hf : FitA xs) (hn : name.length ≤ 1000000) :
    Calls Tryz.prog 32 #[.agg #[.string ⟨name.toArray⟩, u]] w (NmBool (namedR ⟨name, xs⟩) w) := by
  have hb0 := grow1 w (.cells #[.string ⟨name.toArray⟩, u] 24)
  have hw0 := Whole.made w 24 #[.string ⟨name.toArray⟩, u]
  have hp := refname_c name hn _ (hE.below hb0)
  have hu0 := hu.call hb0
  have hE0 := hE.below hb0
  have hha := fun n v w hE h hn hv => refhas_c name xs u n v w hE h hf hn hv
  unfold NameRet at hp
  unfold NmBool at hha
  have HB := Lib.hid (namedR_bad (e := ⟨name, xs⟩))
  have HN0 := Lib.hid (namedR_nil (e := ⟨name, xs⟩))
  have HC : Hid (∀ p r, DnS.nameS name = (p :: r, 0) → namedR ⟨name, xs⟩ = (p.drop 0).all (fun q => EnS.hasS ⟨name, xs⟩ q.1 q.2)) := Lib.hid (fun p r h => namedR_cons (e := ⟨name, xs⟩) h)
  have HSM := Lib.hid (pairs_small name)
  unfold EnS.pairsS at HSM
  generalize namedR ⟨name, xs⟩ = R at *
  generalize DnS.nameS name = P at *
  obtain ⟨ls, e0⟩ := P
  simp only at hp HB HN0 HSM
  obtain ⟨ua, uc, rfl, huc⟩ := SliceP.form hu
  go_enter Tryz.func32, Tryz.ntmps32
  go_wp2_with fail
  refine hp.mono ?_; rintro e w1 ⟨v1, rfl, hv1, hb1⟩
  have hz := below_trans hb0 hb1
  obtain ⟨a, c, rfl, hlc, hcase⟩ := hv1.at
  by_cases he : e0 = 0
  case neg =>
    have hez : (e0 != 0) = true := by simpa using he
    have HQ : Hid (R = false) := Lib.hid (HB.out he)
    go_wp2_with fail
    go_ret
    exact ⟨by rw [HQ.out]; rfl, hz⟩
  subst he
  cases ls with
  | nil =>
    have HQ : Hid (R = false) := Lib.hid (HN0.out rfl)
    simp only [List.length_nil]
    go_wp2_with fail
    go_ret
    exact ⟨by rw [HQ.out]; rfl, hz⟩
  | cons p r =>
  have hl0 : (((p :: r).length : Int) == 0) = false := by rw [List.length_cons]; simp; omega
  have hl1 : decide (((p :: r).length : Int) = 0) = false := decide_eq_false (by rw [List.length_cons]; omega)
  have hl2 : (0 : Int) < ((p :: r).length : Int) := by rw [List.length_cons]; omega
  have HR : Hid (R = (p.drop 0).all (fun q => EnS.hasS ⟨name, xs⟩ q.1 q.2)) := Lib.hid (HC.out p r rfl)
  have HS2 : Hid (p.length ≤ 3 ∧ ∀ q ∈ p, q.1.length ≤ 17 ∧ q.2.length ≤ 200) := Lib.hid HSM.out
  rcases hcase with hcase | ⟨g, o, rfl, hg, hcell⟩
  · cases hcase
  obtain ⟨u1, hu1, hin⟩ := hcell 0 p rfl
  rw [Nat.add_zero] at hu1
  obtain ⟨a2, c2, rfl, hc2, hat⟩ := AvasIn.atk hin
  have HAT := Lib.hid hat
  have hw1 := hw0.call hb1
  have q0 := hw1.cell 0
  have q1 := hw1.cell 1
  simp only [List.getElem?_toArray, List.getElem?_cons_zero, List.getElem?_cons_succ] at q0 q1
  have hu1w := hu0.call hb1
  have hE1 := hE0.below hb1
  clear hcell hin hat HC HSM HB HN0 hw1 hw0 hu0 hE0 hb0 hb1 hlc
  have HLK := Lib.hid (fun k (hk : k < p.length) => lost_succ (f := fun q => EnS.hasS ⟨name, xs⟩ q.1 q.2) hk)
  have HLE := Lib.hid (fun k (hk : p.length ≤ k) => lost_end (f := fun q => EnS.hasS ⟨name, xs⟩ q.1 q.2) hk)
  generalize (p :: r).length = L at *
  generalize hnn : p.length = m at hc2 hu1 ⊢
  have HN := Lib.hid hnn
  have hm : m ≤ 3 := by rw [← hnn]; exact HS2.out.1
  clear hnn
  generalize xs.length = xl at *
  go_wp2_with fail
  go_loopw [23] (fun i wr => ∃ k : Nat, k ≤ m ∧ i = .int .i64 k ∧ Hid (R = (p.drop k).all (fun q => EnS.hasS ⟨name, xs⟩ q.1 q.2)) ∧ Below w1.heap.size w1 wr) (fun i _ => m - (intOf i).toNat)
  case atStart => exact ⟨0, Nat.zero_le _, rfl, HR, Below.refl _ _⟩
  case round =>
    obtain ⟨k, hk, rfl, HA, hb⟩ := hrel
    clear HR
    by_cases hlt : k < m
    · have hlt2 : k < p.length := by rw [HN.out]; exact hlt
      obtain ⟨g2, o2, rfl, hg2, c0, c1⟩ := HAT.out k hlt2
      have HS := Lib.hid (HLK.out k hlt2)
      have hsm := HS2.out.2 p[k] (List.getElem_mem hlt2)
      generalize p[k] = x at *
      obtain ⟨n, v⟩ := x
      unfold strV at c0 c1
      simp only at c0 c1 HS hsm
      have hbd : Below w1.heap.size w1 wr.drew := hb.drew
      have d0 : wr.drew.cell? ⟨g2, o2 + k * 2, none⟩ = some (.string ⟨n.toArray⟩) := keepC c0 hbd
      have d1 : wr.drew.cell? ⟨g2, o2 + k * 2 + 1, none⟩ = some (.string ⟨v.toArray⟩) := keepC c1 hbd
      have d2 : wr.drew.cell? ⟨g, o, none⟩ = some (.slice (some ⟨g2, o2, none⟩) m c2) := keepC hu1 hbd
      have d3 : wr.drew.cell? ⟨w.heap.size, 0, none⟩ = some (.string ⟨name.toArray⟩) := keepC q0 hbd
      have d4 : wr.drew.cell? ⟨w.heap.size, 1, none⟩ = some (.slice ua xl uc) := keepC q1 hbd
      have hcl := hha n v wr.drew (hE1.below hbd) (hu1w.call hbd) (by omega) (by omega)
      generalize EnS.hasS ⟨name, xs⟩ n v = I at *
      have i0 : (0 : Int) ≤ (k : Int) := by omega
      have i1 : (k : Int) < (m : Int) := by omega
      have i2 : 0 < L := by omega
      clear hlt2 HLK HLE HAT c0 c1 hsm hu1 q0 q1 hp hv1
      go_wp2_with fail
      go_region_held3 (fun W => W.cell? ⟨g2, o2 + k * 2, none⟩ = some (.string ⟨n.toArray⟩) ∧ W.cell? ⟨g2, o2 + k * 2 + 1, none⟩ = some (.string ⟨v.toArray⟩) ∧ W.cell? ⟨g, o, none⟩ = some (.slice (some ⟨g2, o2, none⟩) m c2) ∧ W.cell? ⟨w.heap.size, 0, none⟩ = some (.string ⟨name.toArray⟩) ∧ W.cell? ⟨w.heap.size, 1, none⟩ = some (.slice ua xl uc)) (first | exact ⟨d0, d1, d2, d3, d4⟩ | exact ⟨keepC d0 hb2, keepC d1 hb2, keepC d2 hb2, keepC d3 hb2, keepC d4 hb2⟩ | go_keep)
        (first | (go_at_call 61; (with_reducible refine hcl.mono ?_); rintro e w2 ⟨rfl, hb2⟩))
      cases I with
      | false =>
        have HQ : Hid (R = false) := Lib.hid (by rw [HA.out, HS.out]; rfl)
        go_wp2_with fail
        go_ret
        exact ⟨by rw [HQ.out]; rfl, below_trans hz (hbd.trans (hb2.mono hbd.size))⟩
      | true =>
        have HQ : Hid (R = (p.drop (k + 1)).all (fun q => EnS.hasS ⟨name, xs⟩ q.1 q.2)) := Lib.hid (by rw [HA.out, HS.out]; rfl)
        go_wp2_with fail
        go_roundw
        case rel => exact ⟨k + 1, by omega, by go_num, HQ, hbd.trans (hb2.mono hbd.size)⟩
        case measure => simp [intOf]; omega
    · have HALL : Hid (R = true) := Lib.hid (by rw [HA.out]; exact HLE.out k (by rw [HN.out]; omega))
      go_wp2_with fail
      go_ret
      exact ⟨by rw [HALL.out]; rfl, below_trans hz hb⟩
end Go.Proofs.YtmnhgbkdahdoiaaGreatDoor
namespace Go.Proofs.YtmnhgbkdahdoiaaGreatDoor
open Go.RowKit

/-- the type ahead of the k-th attribute -/
def lastA (xs : List EnS.At) : Nat → List UInt8
  | 0 => []
  | j + 1 => match xs[j]? with | some x => x.typ | none => []
theorem lastA_succ (xs : List EnS.At) (j : Nat) (h : j < xs.length) : lastA xs (j + 1) = xs[j].typ := by
  have e : lastA xs (j + 1) = (match xs[j]? with | some x => x.typ | none => []) := rfl
  rw [e, List.getElem?_eq_getElem h]
theorem less_nil2 (l : List UInt8) : Op.bytesLess l [] = false := by cases l <;> simp [Op.bytesLess]
theorem nil_less2 {l : List UInt8} (h : l ≠ []) : Op.bytesLess [] l = true := by cases l <;> simp_all [Op.bytesLess]
theorem loose_split {l : List EnS.At} {k : Nat} (hk : k < l.length) : EnS.formedA (lastA l k) (l.drop k) = (EnS.formA (lastA l k) l[k] && EnS.formedA (lastA l (k + 1)) (l.drop (k + 1))) := by
  conv => lhs; rw [List.drop_eq_getElem_cons hk]
  rw [EnS.formedA, lastA_succ l k hk]
theorem loose_end {l : List EnS.At} {k : Nat} (hk : l.length ≤ k) : EnS.formedA (lastA l k) (l.drop k) = true := by
  rw [List.drop_eq_nil_of_le hk]; rfl
theorem fine_succ {nm : List UInt8} {l : List (List UInt8)} {k : Nat} (hk : k < l.length) : EnS.fineS nm (l.drop k) = (decide ((DnS.valueS nm l[k]).2 = 0) && EnS.fineS nm (l.drop (k + 1))) := by
  unfold EnS.fineS
  rw [List.drop_eq_getElem_cons hk, List.all_cons]
theorem fine_end {nm : List UInt8} {l : List (List UInt8)} {k : Nat} (hk : l.length ≤ k) : EnS.fineS nm (l.drop k) = true := by
  rw [List.drop_eq_nil_of_le hk]; rfl
theorem formA_fine {last : List UInt8} {a : EnS.At} (h : (RuS.typeOf a.typ).1 = a.typ) (h2 : Op.bytesLess last a.typ = true) (h3 : a.vals ≠ []) (h4 : a.vals.length ≤ 20) (h6 : EnS.aloneS a.typ a.vals = true) (b : Bool) : (EnS.formA last a && b) = (EnS.fineS a.typ (a.vals.drop 0) && b) := by
  have e : EnS.formA last a = EnS.fineS a.typ (a.vals.drop 0) := by
    unfold EnS.formA
    rw [decide_eq_true h, h2, decide_eq_true h3, decide_eq_true h4, h6]
    simp
  rw [e]

set_option maxRecDepth 100000 in
set_option maxHeartbeats 4000000 in
theorem loose_c (name : List UInt8) (xs : List EnS.At) (u : Value) (w : World) (hE : Env w) (h : AttrsIn w u xs) (hf : FitA xs) (hn : name.length ≤ 1000000) (ht : ∀ x ∈ xs, x.typ.length ≤ 1048576) :
    Calls Tryz.prog 37 #[.agg #[.string ⟨name.toArray⟩, u]] w (NmBool (EnS.looseS ⟨name, xs⟩) w) := by
  have hb0 := grow1 w (.cells #[.string ⟨name.toArray⟩, u] 24)
  have hw0 := Whole.made w 24 #[.string ⟨name.toArray⟩, u]
  have HP : FKeep xs w w.heap.size name u (w.alloc (.cells #[.string ⟨name.toArray⟩, u] 24)) := ⟨hE.below hb0, hw0, h.call hb0, hb0⟩
  have hnm := fun w hE => rnnormal_c name hn w hE
  have HR : Hid (EnS.looseS ⟨name, xs⟩ = (decide (DnS.normN name = (name, 0)) && decide (name ≠ []) && decide (xs.length ≤ 14) && EnS.formedA (lastA xs 0) (xs.drop 0))) := Lib.hid rfl
  unfold NmTxt at hnm
  have HT := Lib.hid (fun k (h : k < xs.length) (w : World) => reftype_c ⟨xs[k].typ.toArray⟩ (by show xs[k].typ.toArray.size ≤ _; have := ht _ (List.getElem_mem h); rw [List.size_toArray]; omega) w)
  have HAO := Lib.hid (fun k (hk : k < xs.length) u2 w (hE : Env w) (h : StrsIn w u2 (xs[k]'hk).vals) => enalone_c xs[k].typ u2 xs[k].vals w hE (ht _ (List.getElem_mem hk)) h (hf.2 _ (List.getElem_mem hk)).1 (hf.2 _ (List.getElem_mem hk)).2)
  have HVL := Lib.hid (fun k (hk : k < xs.length) (v : List UInt8) (hv : v ∈ xs[k].vals) (w : World) (hE : Env w) => rnvalue_c xs[k].typ v (ht _ (List.getElem_mem hk)) ((hf.2 _ (List.getElem_mem hk)).2 v hv) w hE)
  unfold TypeRet at HT
  unfold NmBool at HAO
  unfold NmTxt at HVL
  have hf1 := hf.1
  generalize EnS.looseS ⟨name, xs⟩ = R at *
  generalize DnS.normN name = N at *
  obtain ⟨n1, e1⟩ := N
  simp only at hnm
  obtain ⟨a, c, rfl, hc, hat⟩ := SliceP.at h
  have HAT := Lib.hid hat
  have HSP := Lib.hid (fun k (hk : k < xs.length) => loose_split hk)
  have HEN := Lib.hid (fun k (hk : xs.length ≤ k) => loose_end hk)
  have HLS := Lib.hid (fun j (hj : j < xs.length) => lastA_succ xs j hj)
  have HL0 : Hid (lastA xs 0 = []) := Lib.hid rfl
  clear hat hb0 hw0 h hE hf ht
  generalize hnn : xs.length = n at hc hf1 HP HR ⊢
  have HN := Lib.hid hnn
  clear hnn
  have HP0 := HP.whole
  have q0 := HP0.cell 0
  have q1 := HP0.cell 1
  simp only [List.getElem?_toArray, List.getElem?_cons_zero, List.getElem?_cons_succ] at q0 q1
  go_enter Tryz.func37, Tryz.ntmps37
  go_wp2_with fail
  refine (hnm _ HP.env).mono ?_; rintro e w1 ⟨rfl, hb1⟩
  have HP1 := HP.call hb1
  have q0 := keepC q0 hb1
  have q1 := keepC q1 hb1
  clear hnm HP hb1 HP0
  by_cases h1 : e1 = 0
  case neg =>
    have he : (e1 != 0) = true := by simpa using h1
    have HQ : Hid (R = false) := Lib.hid (by rw [HR.out, decide_eq_false (by intro hh; exact h1 (congrArg Prod.snd hh))]; rfl)
    go_wp2_with fail
    go_ret
    exact ⟨by rw [HQ.out]; rfl, HP1.below⟩
  subst h1
  by_cases h2 : n1 = name
  case neg =>
    have he : (n1 != name) = true := by simpa using h2
    have HQ : Hid (R = false) := Lib.hid (by rw [HR.out, decide_eq_false (by intro hh; exact h2 (congrArg Prod.fst hh))]; rfl)
    go_wp2_with fail
    go_ret
    exact ⟨by rw [HQ.out]; rfl, HP1.below⟩
  subst h2
  by_cases h3 : n1 = []
  case pos =>
    have HQ : Hid (R = false) := Lib.hid (by rw [HR.out, h3]; simp)
    have he : n1.isEmpty = true := by rw [h3]; rfl
    have he2 : (n1 == []) = true := by rw [h3]; rfl
    clear h3
    go_wp2_with fail
    go_ret
    exact ⟨by rw [HQ.out]; rfl, HP1.below⟩
  have he : n1.isEmpty = false := by cases n1 <;> simp_all
  have he2 : (n1 == []) = false := by cases n1 <;> simp_all
  by_cases h4 : n ≤ 14
  case neg =>
    have HQ : Hid (R = false) := Lib.hid (by rw [HR.out, decide_eq_false h4]; simp)
    clear h3
    go_wp2_with fail
    go_ret
    exact ⟨by rw [HQ.out]; rfl, HP1.below⟩
  have HQ : Hid (R = EnS.formedA (lastA xs 0) (xs.drop 0)) := Lib.hid (by rw [HR.out, decide_eq_true rfl, decide_eq_true h3, decide_eq_true h4]; rfl)
  clear h3 HR
  go_wp2_with fail
  go_loopw [39] (fun i wr => ∃ k : Nat, k ≤ n ∧ i = .int .i64 k ∧ Hid (R = EnS.formedA (lastA xs k) (xs.drop k)) ∧ FKeep xs w w.heap.size n1 (.slice a n c) wr) (fun i _ => n - (intOf i).toNat)
  case atStart => exact ⟨0, Nat.zero_le _, rfl, HQ, HP1⟩
  case round =>
    obtain ⟨k, hk, rfl, HA, HK⟩ := hrel
    clear HQ HP1 q0 q1
    by_cases hlt : k < n
    · have hlt2 : k < xs.length := by rw [HN.out]; exact hlt
      have HS := Lib.hid (HSP.out k hlt2)
      have htk := HT.out k hlt2
      have hak := HAO.out k hlt2
      have hvk := HVL.out k hlt2
      obtain ⟨g, o, rfl, hg, _, hra⟩ := HAT.out k hlt2
      obtain ⟨c0, a2, p2, c1, hp2, hu⟩ := AttrAt.parts (AttrAt.call hra hg trivial HK.below)
      have HPREV : Hid (∀ j, k = j + 1 → wr.cell? ⟨g, o + j * 2, none⟩ = some (.string ⟨(lastA xs k).toArray⟩)) := Lib.hid (fun j hj => by
        have hj2 : j < xs.length := by omega
        obtain ⟨g', o', e, hg', _, hra'⟩ := HAT.out j hj2
        cases e
        have := (AttrAt.parts (AttrAt.call hra' hg' trivial HK.below)).1
        rw [hj, HLS.out j hj2]; exact this)
      have HP0 : Hid (k = 0 → lastA xs k = []) := Lib.hid (fun h => by rw [h]; exact HL0.out)
      have HB := Lib.hid (formA_bad (last := lastA xs k) (a := xs[k]'hlt2))
      have HG := Lib.hid (formA_fine (last := lastA xs k) (a := xs[k]'hlt2))
      generalize xs[k] = x at *
      obtain ⟨ty, vals⟩ := x
      simp only at c0 c1 hp2 hu htk hak hvk HS HB HG
      have hg1 := grow1 wr (.cells #[.string ⟨ty.toArray⟩, .slice a2 vals.length p2] 37)
      have hwx := Whole.made wr 37 #[.string ⟨ty.toArray⟩, .slice a2 vals.length p2]
      have hus := hu.call hg1
      have HK1 := HK.call hg1
      have d0 := hwx.cell 0
      have d1 := hwx.cell 1
      have q0 := HK.whole.cell 0
      have q1 := HK.whole.cell 1
      simp only [List.getElem?_toArray, List.getElem?_cons_zero, List.getElem?_cons_succ] at d0 d1 q0 q1
      generalize lastA xs k = last at *
      generalize hFR : EnS.formedA (lastA xs (k + 1)) (xs.drop (k + 1)) = FR at HS
      have HFR := Lib.hid hFR
      clear hFR
      clear hra hlt2 HSP HT HAO HVL hu HEN hwx HLS HL0 HAT
      generalize RuS.typeOf ty = TT at *
      obtain ⟨T, sy⟩ := TT
      simp only at htk HB HG
      have i0 : (0 : Int) ≤ (k : Int) := by omega
      have i1 : (k : Int) < (n : Int) := by omega
      go_wp2_with fail
      refine (htk _).mono ?_; rintro e w2 ⟨rfl, hb2⟩
      have hbt := hg1.trans (hb2.mono hg1.size)
      have HK2 := HK1.call hb2
      have dd0 := keepC d0 hb2
      have dd1 := keepC d1 hb2
      have qq0 := keepC q0 hbt
      have qq1 := keepC q1 hbt
      have hkk : decide ((0 : Int) < (k : Int)) = false ∧ last = [] ∨ ∃ j : Nat, (0 : Int) < (k : Int) ∧ (k : Int) - 1 = (j : Int) ∧ IntKind.i64.wrap (j : Int) = (j : Int) ∧ (0 : Int) ≤ (j : Int) ∧ (j : Int) < (n : Int) ∧ w2.cell? ⟨g, o + j * 2, none⟩ = some (.string ⟨last.toArray⟩) := by
        by_cases hk0 : k = 0
        · exact .inl ⟨decide_eq_false (by omega), HP0.out hk0⟩
        · obtain ⟨j, hj⟩ : ∃ j, k = j + 1 := ⟨k - 1, by omega⟩
          exact .inr ⟨j, by omega, by omega, by rw [IntKind.wrap_i64]; omega, by omega, by omega, keepC (HPREV.out j hj) hbt⟩
      have hus2 := hus.call hb2
      clear htk HK HK1 hg1 hb2 hus d0 d1 q0 q1 hbt c0 c1
      by_cases k0 : T = []
      case pos =>
        have HQ : Hid (R = false) := Lib.hid (by
          rw [HA.out, HS.out, HB.out ?_]; rfl
          by_cases h : T = ty
          · exact .inr (.inl (by rw [← h, k0]; exact less_nil2 _))
          · exact .inl h)
        have he0 : (T == []) = true := by rw [k0]; rfl
        have he1 : T.isEmpty = true := by rw [k0]; rfl
        clear HB HG k0 hkk
        go_wp2_with fail
        go_ret
        exact ⟨by rw [HQ.out]; rfl, HK2.below⟩
      have he0 : (T == []) = false := by cases T <;> simp_all
      have he1 : T.isEmpty = false := by cases T <;> simp_all
      have HT0 := Lib.hid k0
      clear k0
      by_cases k1 : T = ty
      case neg =>
        have he2 : (T == ty) = false := by simpa using k1
        have HQ : Hid (R = false) := Lib.hid (by rw [HA.out, HS.out, HB.out (.inl k1)]; rfl)
        clear hkk
        go_wp2_with fail
        go_ret
        exact ⟨by rw [HQ.out]; rfl, HK2.below⟩
      subst k1
      cases k2 : Op.bytesLess last T with
      | false =>
        have HQ : Hid (R = false) := Lib.hid (by rw [HA.out, HS.out, HB.out (.inr (.inl k2))]; rfl)
        rcases hkk with ⟨hk0, h0⟩ | ⟨j, hj0, hj1, hj2, hj3, hj4, hj5⟩
        · rw [h0, nil_less2 HT0.out] at k2
          cases k2
        · clear HB HG HA HS hak hvk
          go_wp2_with fail
          go_ret
          exact ⟨by rw [HQ.out]; rfl, HK2.below⟩
      | true =>
      have hkk : (decide ((0 : Int) < (k : Int)) = false ∧ decide (0 < k) = false) ∨ ∃ j : Nat, (0 : Int) < (k : Int) ∧ 0 < k ∧ (k : Int) - 1 = (j : Int) ∧ IntKind.i64.wrap (j : Int) = (j : Int) ∧ (0 : Int) ≤ (j : Int) ∧ (j : Int) < (n : Int) ∧ w2.cell? ⟨g, o + j * 2, none⟩ = some (.string ⟨last.toArray⟩) := hkk.imp (fun h => ⟨h.1, by have := of_decide_eq_false h.1; exact decide_eq_false (by omega)⟩) (fun ⟨j, h0, h⟩ => ⟨j, h0, by omega, h⟩)
      cases hvv : vals with
      | nil =>
        have HQ : Hid (R = false) := Lib.hid (by rw [HA.out, HS.out, HB.out (.inr (.inr (.inl hvv)))]; rfl)
        subst hvv
        clear HA HS HB HG hak hvk
        rcases hkk with ⟨hk0, hk00⟩ | ⟨j, hj0, hj00, hj1, hj2, hj3, hj4, hj5⟩
        all_goals
          simp only [List.length_nil] at dd1 ⊢
          go_wp2_with fail
          go_ret
          exact ⟨by rw [HQ.out]; rfl, HK2.below⟩
      | cons v0 vr =>
      rw [← hvv]
      have hne : vals ≠ [] := by rw [hvv]; simp
      have hl1 : 0 < vals.length := by rw [hvv]; simp
      clear hvv v0 vr
      obtain ⟨_, _, e2, _, hat2⟩ := SliceP.at hus2
      cases e2
      have HAT2 := Lib.hid hat2
      clear hat2
      generalize hL : vals.length = L at dd1 hus2 hp2 hl1 ⊢
      have HL := Lib.hid hL
      clear hL
      have hl2 : decide ((L : Int) < 1) = false := decide_eq_false (by omega)
      by_cases k7 : 20 < L
      case pos =>
        have HQ : Hid (R = false) := Lib.hid (by rw [HA.out, HS.out, HB.out (.inr (.inr (.inr (.inl (by rw [HL.out]; exact k7)))))]; rfl)
        have hl4 : decide ((20 : Int) < (L : Int)) = true := decide_eq_true (by omega)
        clear HA HS HB HG hak hvk
        rcases hkk with ⟨hk0, hk00⟩ | ⟨j, hj0, hj00, hj1, hj2, hj3, hj4, hj5⟩
        all_goals
          go_wp2_with fail
          go_ret
          exact ⟨by rw [HQ.out]; rfl, HK2.below⟩
      have hl4 : decide ((20 : Int) < (L : Int)) = false := decide_eq_false (by omega)
      have ha2 := hak _ _ HK2.env hus2.strs
      cases k8 : EnS.aloneS T vals with
      | false =>
        have HQ : Hid (R = false) := Lib.hid (by rw [HA.out, HS.out, HB.out (.inr (.inr (.inr (.inr (.inr k8)))))]; rfl)
        rw [k8] at ha2
        clear HA HS HB HG hak hvk k8
        rcases hkk with ⟨hk0, hk00⟩ | ⟨j, hj0, hj00, hj1, hj2, hj3, hj4, hj5⟩
        all_goals
          go_wp2_with fail
          refine ha2.mono ?_; rintro e w3 ⟨rfl, hb3⟩
          go_wp2_with fail
          go_ret
          exact ⟨by rw [HQ.out]; rfl, (HK2.call hb3).below⟩
      | true =>
        have HQ : Hid (R = (EnS.fineS T (vals.drop 0) && FR)) := Lib.hid (by rw [HA.out, HS.out]; exact HG.out rfl k2 hne (by rw [HL.out]; omega) k8 FR)
        rw [k8] at ha2
        clear HA HS HB HG hak k8
        have HFS := Lib.hid (fun j (hj : j < vals.length) => fine_succ (nm := T) (l := vals) hj)
        have HFE := Lib.hid (fun j (hj : vals.length ≤ j) => fine_end (nm := T) (l := vals) hj)
        have HVK := Lib.hid (fun j (hj : j < vals.length) => hvk vals[j] (List.getElem_mem hj))
        clear hvk
        rcases hkk with ⟨hk0, hk00⟩ | ⟨j, hj0, hj00, hj1, hj2, hj3, hj4, hj5⟩
        all_goals
          go_wp2_with fail
          refine ha2.mono ?_; rintro e w3 ⟨rfl, hb3⟩
          have HK3 := HK2.call hb3
          have d1 := keepC dd1 hb3
          clear ha2
          go_wp2_with fail
          go_loopw [98] (fun i wr2 => ∃ t : Nat, t ≤ L ∧ i = .int .i64 t ∧ Hid (R = (EnS.fineS T (vals.drop t) && FR)) ∧ FKeep xs w w.heap.size n1 (.slice (some ⟨g, o, none⟩) n c) wr2 ∧ Below w3.heap.size w3 wr2) (fun i _ => L - (intOf i).toNat)
          case atStart => exact ⟨0, Nat.zero_le _, rfl, HQ, HK3, Below.refl _ _⟩
          case round =>
            obtain ⟨t, ht, rfl, HA, HK4, hb4⟩ := hrel
            clear HQ
            by_cases hlt3 : t < L
            · have hlt4 : t < vals.length := by rw [HL.out]; exact hlt3
              have HF1 := Lib.hid (HFS.out t hlt4)
              obtain ⟨g2, o2, rfl, hg2, _, hra2⟩ := HAT2.out t hlt4
              have hbz := (Below.refl w2.heap.size w2).trans (hb3.trans (hb4.mono hb3.size))
              have r0 : wr.cell? ⟨g2, o2 + t, none⟩ = some (strV vals[t]) := by
                have : w2.cell? ⟨g2, o2 + t * 1, none⟩ = some (strV vals[t]) := hra2
                rw [Nat.mul_one] at this
                exact keepC this hbz
              have hcl := HVK.out t hlt4 wr HK4.env
              have z1 := keepC d1 hb4
              unfold strV at r0
              generalize vals[t] = z at *
              generalize DnS.valueS T z = V at *
              obtain ⟨m0, f0⟩ := V
              simp only at hcl HF1
              have j0 : (0 : Int) ≤ (t : Int) := by omega
              have j1 : (t : Int) < (L : Int) := by omega
              clear hra2 hlt4 HFS HFE HVK HAT2
              by_cases hf0 : f0 = 0
              case neg =>
                have HZ : Hid (R = false) := Lib.hid (by rw [HA.out, HF1.out, decide_eq_false hf0]; rfl)
                have hz : (f0 != 0) = true := by simpa using hf0
                go_wp2_with fail
                refine hcl.mono ?_; rintro e w5 ⟨rfl, hb5⟩
                go_wp2_with fail
                go_ret
                exact ⟨by rw [HZ.out]; rfl, (HK4.call hb5).below⟩
              subst hf0
              have HZ : Hid (R = (EnS.fineS T (vals.drop (t + 1)) && FR)) := Lib.hid (by rw [HA.out, HF1.out]; rfl)
              go_wp2_with fail
              refine hcl.mono ?_; rintro e w5 ⟨rfl, hb5⟩
              go_wp2_with fail
              go_roundw
              case rel => exact ⟨t + 1, by omega, by go_num, HZ, HK4.call hb5, hb4.trans (hb5.mono hb4.size)⟩
              case measure => simp [intOf]; omega
            · have HZ : Hid (R = EnS.formedA (lastA xs (k + 1)) (xs.drop (k + 1))) := Lib.hid (by rw [HA.out, HFE.out t (by rw [HL.out]; omega), HFR.out]; rfl)
              go_wp2_with fail
              go_roundw
              case rel => exact ⟨k + 1, by omega, by go_num, HZ, HK4⟩
              case measure => simp [intOf]; omega
    · have HALL : Hid (R = true) := Lib.hid (by rw [HA.out]; exact HEN.out k (by rw [HN.out]; omega))
      go_wp2_with fail
      go_ret
      exact ⟨by rw [HALL.out]; rfl, HK.below⟩

theorem namedR_of {name : List UInt8} {xs : List EnS.At} (h : EnS.looseS ⟨name, xs⟩ = true) : namedR ⟨name, xs⟩ = EnS.namedS ⟨name, xs⟩ := by
  unfold EnS.looseS at h
  simp only [Bool.and_eq_true, decide_eq_true_eq] at h
  obtain ⟨⟨⟨hn, h0⟩, _⟩, _⟩ := h
  have ht : DnS.textsS name = ((DnS.textsS name).1, 0) := by
    have := congrArg Prod.snd hn
    unfold DnS.normN at this
    rw [← show (DnS.textsS name).2 = 0 from this]
  obtain ⟨l, hl, hm, _⟩ := DnS.textsS_spec ht
  unfold namedR
  show (decide ((DnS.nameS name).2 = 0) && decide ((DnS.nameS name).1 ≠ []) && EnS.namedS ⟨name, xs⟩) = _
  rw [hl]
  have hne : l ≠ [] := fun h => by
    rw [h] at hm
    have := congrArg Prod.fst hn
    unfold DnS.normN at this
    rw [hm] at this
    exact h0 this.symm
  simp [hne]
theorem formedE_of (name : List UInt8) (xs : List EnS.At) : EnS.formedE ⟨name, xs⟩ = (EnS.looseS ⟨name, xs⟩ && decide (EnS.valuesS ⟨name, xs⟩ EnS.tClass ≠ []) && namedR ⟨name, xs⟩) := by
  unfold EnS.formedE
  cases h : EnS.looseS ⟨name, xs⟩ with
  | false => rfl
  | true => rw [namedR_of h]
set_option maxRecDepth 100000 in
set_option maxHeartbeats 1000000 in
theorem enrefformed_c (name : List UInt8) (xs : List EnS.At) (u : Value) (w : World) (hE : Env w) (h : AttrsIn w u xs) (hf : FitA xs) (hn : name.length ≤ 1000000) (ht : ∀ x ∈ xs, x.typ.length ≤ 1048576) :
    Calls Tryz.prog 15 #[.agg #[.string ⟨name.toArray⟩, u]] w (NmBool (EnS.formedE ⟨name, xs⟩) w) := by
  have hb0 := grow1 w (.cells #[.string ⟨name.toArray⟩, u] 24)
  have hw0 := Whole.made w 24 #[.string ⟨name.toArray⟩, u]
  have HP : FKeep xs w w.heap.size name u (w.alloc (.cells #[.string ⟨name.toArray⟩, u] 24)) := ⟨hE.below hb0, hw0, h.call hb0, hb0⟩
  have HR := Lib.hid (formedE_of name xs)
  have hlo := fun w hE h => loose_c name xs u w hE h hf hn ht
  have hvl := fun w h => refvalues_c name xs u EnS.tClass w h hf (by decide)
  have hnd := fun w hE h => refnamed_c name xs u w hE h hf hn
  unfold OwnRet at hvl
  unfold NmBool at hlo hnd
  generalize EnS.formedE ⟨name, xs⟩ = R at *
  generalize EnS.looseS ⟨name, xs⟩ = LO at *
  generalize EnS.valuesS ⟨name, xs⟩ EnS.tClass = VS at *
  unfold EnS.tClass at hvl
  generalize namedR ⟨name, xs⟩ = ND at *
  obtain ⟨a, c, rfl, _⟩ := SliceP.form h
  have q0 := HP.whole.cell 0
  have q1 := HP.whole.cell 1
  simp only [List.getElem?_toArray, List.getElem?_cons_zero, List.getElem?_cons_succ] at q0 q1
  have hl2 := hlo _ HP.env HP.attrs
  clear hb0 hw0 h hE hf ht hlo
  generalize xs.length = n at *
  go_enter Tryz.func15, Tryz.ntmps15
  go_wp2_with fail
  refine hl2.mono ?_; rintro e w1 ⟨rfl, hb1⟩
  have HP1 := HP.call hb1
  have q0 := keepC q0 hb1
  have q1 := keepC q1 hb1
  have hv2 := hvl _ HP1.attrs
  clear HP hl2 hvl
  cases LO with
  | false =>
    have HZ : Hid (R = false) := Lib.hid (by rw [HR.out]; rfl)
    go_wp2_with fail
    go_ret
    exact ⟨by rw [HZ.out]; rfl, HP1.below⟩
  | true =>
  cases VS with
  | nil =>
    have HZ : Hid (R = false) := Lib.hid (by rw [HR.out]; rfl)
    clear hnd
    go_wp2_with fail
    refine hv2.mono ?_; rintro e w2 ⟨v2, rfl, hown, hb2⟩
    obtain ⟨a3, c3, rfl⟩ := hown.form
    simp only [List.length_nil]
    go_wp2_with fail
    go_ret
    exact ⟨by rw [HZ.out]; rfl, (HP1.call hb2).below⟩
  | cons v0 vr =>
    have HZ : Hid (R = ND) := Lib.hid (by rw [HR.out]; simp)
    have hl1 : 0 < (v0 :: vr).length := by simp
    clear HR
    go_wp2_with fail
    refine hv2.mono ?_; rintro e w2 ⟨v2, rfl, hown, hb2⟩
    obtain ⟨a3, c3, rfl⟩ := hown.form
    have HK2 := HP1.call hb2
    have q2 := keepC q0 hb2
    have q3 := keepC q1 hb2
    have hn2 := hnd _ HK2.env HK2.attrs
    clear hnd hown
    generalize (v0 :: vr).length = L at *
    go_wp2_with fail
    refine hn2.mono ?_; rintro e w3 ⟨rfl, hb3⟩
    go_wp2_with fail
    go_ret
    exact ⟨by rw [HZ.out]; rfl, (HK2.call hb3).below⟩
end Go.Proofs.YtmnhgbkdahdoiaaGreatDoor
