/- The walks of what makes an entry formed: the program's. Conditions: an entry has at most 1048576 attributes of as many values each, of at most 1000000 bytes; the library's variables are laid. The walk of what makes an entry formed: the program's Formed. Conditions: an entry has at most 1048576 attributes of as many values each, of at most 1000000 bytes; the library's variables are laid. -/
import Derived.Test.YtmnhgbkdahdoiaaGreatDoorMEna
import Derived.Test.YtmnhgbkdahdoiaaGreatDoorMRuS
namespace Go.Proofs.YtmnhgbkdahdoiaaGreatDoor
open Go.RowKit

/-- has a value no normal form? -/
def badS (nm v : List UInt8) : Bool := decide ((DnS.valueS nm v).2 ≠ 0)
theorem any_bad (nm : List UInt8) (l : List (List UInt8)) : l.any (badS nm) = !EnS.fineS nm l := by
  unfold EnS.fineS badS
  rw [List.any_eq_not_all_not]
  congr 1
  congr 1
  funext v
  by_cases h : (DnS.valueS nm v).2 = 0 <;> simp [h]
theorem find_any2 {α : Type} (p : α → Bool) (l : List α) : (l.findIdx? p).isSome = l.any p := by
  rw [List.findIdx?_isSome]
set_option maxRecDepth 100000 in
theorem wrongclo_c (nm v : List UInt8) (b1 : Nat) (w : World) (hE : Env w) (h1 : w.cell? ⟨b1, 0, none⟩ = some (strV nm)) (hn : nm.length ≤ 1048576) (hv : v.length ≤ 1000000) :
    Calls Tryz.prog 42 #[.string ⟨v.toArray⟩, .pointer (some ⟨b1, 0, none⟩)] w (NmBool (badS nm v) w) := by
  have hc := dnvalue_c nm v hn hv w hE
  unfold NmTxt at hc
  have HR : Hid (badS nm v = decide ((DnS.valueS nm v).2 ≠ 0)) := Lib.hid rfl
  generalize badS nm v = R at *
  generalize DnS.valueS nm v = V at *
  obtain ⟨m, e0⟩ := V
  simp only at hc HR
  unfold strV at h1
  go_enter Tryz.func42, Tryz.ntmps42
  go_wp2_with fail
  refine hc.mono ?_; rintro e w1 ⟨rfl, hb1⟩
  go_wp2_with fail
  go_ret
  exact ⟨by rw [HR.out]; congr 2; by_cases h : e0 = 0 <;> simp [h], hb1⟩

set_option maxRecDepth 100000 in
theorem idxwrong_c (nm : List UInt8) (v : Value) (xs : List (List UInt8)) (b1 : Nat) (w : World) (hE : Env w) (h1 : w.cell? ⟨b1, 0, none⟩ = some (strV nm)) (hn : nm.length ≤ 1048576)
    (h : StrsIn w v xs) (hl : xs.length ≤ 1048576) (hx : ∀ x ∈ xs, x.length ≤ 1000000) :
    Calls Tryz.prog 68 #[v, .func (.func 42) #[] #[.pointer (some ⟨b1, 0, none⟩)]] w (IdxRetI (xs.findIdx? (badS nm)) w) := by
  obtain ⟨a, c, rfl, hc, hat⟩ := SliceP.at (h.strsP (fun _ => True) (fun _ _ => trivial))
  have HAT := Lib.hid hat
  have HX := Lib.hid (fun k (h : k < xs.length) => hx xs[k] (List.getElem_mem h))
  have HC := fun x w hE k1 hx => wrongclo_c nm x b1 w hE k1 hn hx
  unfold NmBool at HC
  have HFND := Lib.hid (fun k (hk : k < xs.length) => idx_found (p := badS nm) hk)
  have HNON := Lib.hid (idx_none (p := badS nm) (xs := xs))
  have HTM := Lib.hid (fun k (hk : k < xs.length) => take_miss (p := badS nm) hk)
  generalize xs.findIdx? (badS nm) = R at *
  generalize badS nm = p at *
  clear hat hx h
  generalize hnn : xs.length = m at hc hl ⊢
  have HN := Lib.hid hnn
  clear hnn
  go_enter Tryz.func68, Tryz.ntmps68
  go_wp2_with fail
  go_loopw [8] (fun i wr => ∃ k : Nat, k ≤ m ∧ i = .int .i64 k ∧ Hid (∀ x ∈ xs.take k, p x = false) ∧ Below w.heap.size w wr) (fun i _ => m - (intOf i).toNat)
  case atStart => exact ⟨0, Nat.zero_le _, rfl, Lib.hid (fun x hx => by cases hx), Below.refl _ _⟩
  case round =>
    obtain ⟨k, hk, rfl, HA, hb⟩ := hrel
    by_cases hlt : k < m
    · have hlt2 : k < xs.length := by rw [HN.out]; exact hlt
      obtain ⟨g, o, rfl, hg, _, hra⟩ := HAT.out k hlt2
      have c0 : wr.cell? ⟨g, o + k, none⟩ = some (strV xs[k]) := by
        have : w.cell? ⟨g, o + k * 1, none⟩ = some (strV xs[k]) := hra
        rw [Nat.mul_one] at this
        exact keepC this hb
      have k1 := keepC h1 hb
      have hxl := HX.out k hlt2
      have HF := Lib.hid (HFND.out k hlt2 HA.out)
      have HT := Lib.hid (HTM.out k hlt2 HA.out)
      generalize xs[k] = x at *
      unfold strV at c0
      have hcl := HC x wr (hE.below hb) k1 hxl
      clear hra hlt2 HFND HNON HTM
      cases hq : p x with
      | true =>
        have HR := Lib.hid (HF.out hq)
        rw [hq] at hcl
        clear hq HF HT
        go_wp2_with fail
        refine hcl.mono ?_; rintro e w1 ⟨rfl, hb1⟩
        go_wp2_with fail
        go_ret
        exact ⟨by rw [HR.out]; rfl, hb.trans (hb1.mono hb.size)⟩
      | false =>
        have HR := Lib.hid (HT.out hq)
        rw [hq] at hcl
        clear hq HF HT
        go_wp2_with fail
        refine hcl.mono ?_; rintro e w1 ⟨rfl, hb1⟩
        go_wp2_with fail
        go_roundw
        case rel => exact ⟨k + 1, by omega, by go_num, HR, hb.trans (hb1.mono hb.size)⟩
        case measure => simp [intOf]; omega
    · have HALL : Hid (R = none) := Lib.hid (HNON.out (by have := HA.out; rwa [List.take_of_length_le (by rw [HN.out]; omega)] at this))
      go_wp2_with fail
      go_ret
      exact ⟨by rw [HALL.out]; rfl, hb⟩

set_option maxRecDepth 100000 in
theorem haswrong_c (nm : List UInt8) (v : Value) (xs : List (List UInt8)) (b1 : Nat) (w : World) (hE : Env w) (h1 : w.cell? ⟨b1, 0, none⟩ = some (strV nm)) (hn : nm.length ≤ 1048576)
    (h : StrsIn w v xs) (hl : xs.length ≤ 1048576) (hx : ∀ x ∈ xs, x.length ≤ 1000000) :
    Calls Tryz.prog 41 #[v, .func (.func 42) #[] #[.pointer (some ⟨b1, 0, none⟩)]] w (NmBool (!EnS.fineS nm xs) w) := by
  have hi := idxwrong_c nm v xs b1 w hE h1 hn h hl hx
  unfold IdxRetI at hi
  have HR : Hid ((!EnS.fineS nm xs) = (xs.findIdx? (badS nm)).isSome) := Lib.hid (by rw [find_any2, any_bad])
  generalize (!EnS.fineS nm xs) = R at *
  generalize xs.findIdx? (badS nm) = I at *
  have HI := Lib.hid (idx_has I)
  generalize idxI I = z at *
  obtain ⟨a, c, rfl⟩ := h.form
  go_enter Tryz.func41, Tryz.ntmps41
  go_wp2_with fail
  refine hi.mono ?_; rintro e w1 ⟨rfl, hb1⟩
  go_wp2_with fail
  go_ret
  exact ⟨by rw [HR.out, ← HI.out]; rfl, hb1⟩

set_option maxRecDepth 100000 in
theorem enwrong_c (nm : List UInt8) (v : Value) (xs : List (List UInt8)) (w : World) (hE : Env w) (hn : nm.length ≤ 1048576) (h : StrsIn w v xs) (hl : xs.length ≤ 1048576) (hx : ∀ x ∈ xs, x.length ≤ 1000000) :
    Calls Tryz.prog 22 #[.string ⟨nm.toArray⟩, v] w (NmBool (!EnS.fineS nm xs) w) := by
  have hmf : ∀ (fn : Fn) (first cap : Array Value) (w : World), (Instr.makeFunc fn first cap).run Tryz.prog w = .ok (.func fn first cap) w := fun _ _ _ _ => rfl
  have hb0 := grow1 w (.cells #[.string ⟨nm.toArray⟩] 9)
  have hw0 := Whole.made w 9 #[.string ⟨nm.toArray⟩]
  have hi := haswrong_c nm v xs w.heap.size _ (hE.below hb0) (hw0.cell 0) hn (h.call hb0 (Nat.le_refl _)) hl hx
  unfold NmBool at hi
  generalize (!EnS.fineS nm xs) = R at *
  obtain ⟨a, c, rfl⟩ := h.form
  generalize xs.length = m at *
  go_enter Tryz.func22, Tryz.ntmps22
  go_wp2_with fail
  refine hi.mono ?_; rintro e w1 ⟨rfl, hb1⟩
  go_wp2_with fail
  go_ret
  exact ⟨rfl, below_trans hb0 hb1⟩

set_option maxRecDepth 100000 in
theorem entwice_c (nm : List UInt8) (v : Value) (xs : List (List UInt8)) (w : World) (hE : Env w) (hn : nm.length ≤ 1048576) (h : StrsIn w v xs) (hl : xs.length ≤ 1048576) (hx : ∀ x ∈ xs, x.length ≤ 1000000) :
    Calls Tryz.prog 35 #[.string ⟨nm.toArray⟩, v] w (NmBool (!EnS.aloneS nm xs) w) := by
  have hP := h.strsP (fun _ => True) (fun _ _ => trivial)
  obtain ⟨a, c, rfl, hc, hat⟩ := SliceP.at hP
  have HAT := Lib.hid hat
  have HX := Lib.hid (fun k (h : k < xs.length) => hx xs[k] (List.getElem_mem h))
  have HIN := Lib.hid (fun (k : Nat) (hk : k ≤ xs.length) => StrsP.strs (ok := fun _ => True) (SliceP.take hP hk))
  have HTL := Lib.hid (fun (k : Nat) (hk : k ≤ xs.length) => show (xs.take k).length = k from by rw [List.length_take]; omega)
  have HTM := Lib.hid (fun (k : Nat) (x : List UInt8) (h : x ∈ xs.take k) => hx x (List.mem_of_mem_take h))
  have HFC := fun u k x w hE (hx : x.length ≤ 1000000) h h1 => find_c nm x u (xs.take k) w hE hn hx h h1 (HTM.out k)
  unfold IdxRetI at HFC
  have HST := Lib.hid (fun (k : Nat) (hk : k < xs.length) => EnS.alone_at (nm := nm) (l := xs) hk)
  have HEN := Lib.hid (fun (k : Nat) (hk : xs.length ≤ k) => EnS.alone_end (nm := nm) (l := xs) hk)
  have HFW := Lib.hid (fun k x => EnS.find_within nm (xs.take k) x)
  have HR : Hid (EnS.aloneS nm xs = EnS.aloneF nm (xs.take 0) (xs.drop 0)) := Lib.hid rfl
  generalize EnS.aloneS nm xs = R at *
  clear hat hx h hP HTM
  generalize hnn : xs.length = m at hc hl ⊢
  have HN := Lib.hid hnn
  clear hnn
  go_enter Tryz.func35, Tryz.ntmps35
  go_wp2_with fail
  go_loopw [9] (fun i wr => ∃ k : Nat, k ≤ m ∧ i = .int .i64 k ∧ Hid (R = EnS.aloneF nm (xs.take k) (xs.drop k)) ∧ Below w.heap.size w wr) (fun i _ => m - (intOf i).toNat)
  case atStart => exact ⟨0, Nat.zero_le _, rfl, HR, Below.refl _ _⟩
  case round =>
    obtain ⟨k, hk, rfl, HA, hb⟩ := hrel
    clear HR
    by_cases hlt : k < m
    · have hlt2 : k < xs.length := by rw [HN.out]; exact hlt
      obtain ⟨g, o, rfl, hg, _, hra⟩ := HAT.out k hlt2
      have c0 : wr.cell? ⟨g, o + k, none⟩ = some (strV xs[k]) := by
        have : w.cell? ⟨g, o + k * 1, none⟩ = some (strV xs[k]) := hra
        rw [Nat.mul_one] at this
        exact keepC this hb
      have hxl := HX.out k hlt2
      have HS := Lib.hid (HST.out k hlt2)
      have hin := HIN.out k (Nat.le_of_lt hlt2)
      have hin2 := hin.call hb (Nat.le_refl _)
      have hcl := HFC _ k xs[k] wr (hE.below hb) hxl hin2 (by rw [HTL.out k (Nat.le_of_lt hlt2)]; omega)
      have HW := Lib.hid (HFW.out k xs[k])
      generalize xs[k] = x at *
      unfold strV at c0
      generalize EnS.findI nm (xs.take k) x = I at *
      clear hra hlt2 HST HEN HFW hin hin2
      cases I with
      | some i =>
        have HQ : Hid (R = false) := Lib.hid (by rw [HA.out, HS.out, ← HW.out]; rfl)
        have hi0 : decide ((0 : Int) ≤ (i : Int)) = true := decide_eq_true (by omega)
        unfold idxI at hcl
        simp only at hcl
        go_wp2_with fail
        refine hcl.mono ?_; rintro e w1 ⟨rfl, hb1⟩
        go_wp2_with fail
        go_ret
        exact ⟨by rw [HQ.out]; rfl, hb.trans (hb1.mono hb.size)⟩
      | none =>
        have HQ : Hid (R = EnS.aloneF nm (xs.take (k + 1)) (xs.drop (k + 1))) := Lib.hid (by rw [HA.out, HS.out, ← HW.out]; rfl)
        unfold idxI at hcl
        simp only at hcl
        go_wp2_with fail
        refine hcl.mono ?_; rintro e w1 ⟨rfl, hb1⟩
        go_wp2_with fail
        go_roundw
        case rel => exact ⟨k + 1, by omega, by go_num, HQ, hb.trans (hb1.mono hb.size)⟩
        case measure => simp [intOf]; omega
    · have HALL : Hid (R = true) := Lib.hid (by rw [HA.out]; exact HEN.out k (by rw [HN.out]; omega))
      go_wp2_with fail
      go_ret
      exact ⟨by rw [HALL.out]; rfl, hb⟩

/-! the pairs of an entry's first part are among its attributes -/
def PairsRet (s : List UInt8) (w : World) (e : Ending) (w' : World) : Prop := ∃ v, e = .returned v ∧ AvasIn w' v (EnS.pairsS s) ∧ Below w.heap.size w w'
set_option maxRecDepth 100000 in
theorem enpairs_c (s : List UInt8) (hs : s.length ≤ 1000000) (w : World) (hE : Env w) : Calls Tryz.prog 66 #[.string ⟨s.toArray⟩] w (PairsRet s w) := by
  have hp := dnparse_c s hs w hE
  unfold NameRetP at hp
  have HR : Hid (EnS.pairsS s = (match (DnS.nameS s).1 with | [] => [] | p :: _ => p)) := Lib.hid rfl
  unfold PairsRet
  generalize EnS.pairsS s = R at *
  generalize DnS.nameS s = P at *
  obtain ⟨ls, e0⟩ := P
  simp only at hp HR
  cases ls with
  | nil =>
    go_enter Tryz.func66, Tryz.ntmps66
    go_wp2_with fail
    refine hp.mono ?_; rintro e w1 ⟨v1, rfl, hv1, hb1⟩
    obtain ⟨a, c, rfl, _, _⟩ := hv1.at
    simp only [List.length_nil]
    go_wp2_with fail
    go_ret
    exact ⟨_, rfl, by rw [HR.out]; exact AvasIn.empty _, below_trans hb1 (grow1 w1 _)⟩
  | cons p r =>
    have hl0 : (((p :: r).length : Int) == 0) = false := by rw [List.length_cons]; simp; omega
    have hl1 : decide (((p :: r).length : Int) = 0) = false := decide_eq_false (by rw [List.length_cons]; omega)
    have hl2 : (0 : Int) < ((p :: r).length : Int) := by rw [List.length_cons]; omega
    go_enter Tryz.func66, Tryz.ntmps66
    go_wp2_with fail
    refine hp.mono ?_; rintro e w1 ⟨v1, rfl, hv1, hb1⟩
    obtain ⟨a, c, rfl, _, hcase⟩ := hv1.at
    rcases hcase with hcase | ⟨g, o, rfl, hg, hcell⟩
    · cases hcase
    obtain ⟨u, hu, hin⟩ := hcell 0 p rfl
    have hin0 := hin
    obtain ⟨a2, c2, rfl, hc2, hcells⟩ := hin0
    clear hcells
    rw [Nat.add_zero] at hu
    have hg1 := grow1 w1 (.cells #[.slice (some ⟨g, o, none⟩) (p :: r).length c] 125)
    have hu1 := keepC hu hg1
    have hin1 := hin.call hg1 (Nat.le_refl _)
    clear hcell hu hin
    generalize (p :: r).length = L at *
    go_wp2_with fail
    go_ret
    exact ⟨_, rfl, by rw [HR.out]; exact hin1, below_trans hb1 hg1⟩

theorem pairs_small (s : List UInt8) : (EnS.pairsS s).length ≤ 3 ∧ ∀ p ∈ EnS.pairsS s, p.1.length ≤ 17 ∧ p.2.length ≤ 200 := by
  unfold EnS.pairsS
  by_cases h : (DnS.nameS s).2 = 0
  · have hf := DnS.nameS_formed (s := s) (l := (DnS.nameS s).1) (by rw [← h])
    generalize (DnS.nameS s).1 = l at *
    cases l with
    | nil => exact ⟨Nat.zero_le _, fun p hp => by cases hp⟩
    | cons q r => exact RdS.formed_small (hf.2.1 q (List.mem_cons_self ..))
  · rw [DnS.name_bad h]
    exact ⟨Nat.zero_le _, fun p hp => by cases hp⟩

set_option maxRecDepth 100000 in
theorem namedclo_c (name : List UInt8) (xs : List EnS.At) (u : Value) (p : RdS.Pr) (b1 : Nat) (w : World) (hE : Env w) (h1 : Whole w b1 24 #[.string ⟨name.toArray⟩, u]) (h : AttrsIn w u xs) (hf : FitA xs) (hp1 : p.1.length ≤ 1000000) (hp2 : p.2.length ≤ 1000000) :
    Calls Tryz.prog 67 #[.agg #[.string ⟨p.1.toArray⟩, .string ⟨p.2.toArray⟩], .pointer (some ⟨b1, 0, none⟩)] w (NmBool (!EnS.hasS ⟨name, xs⟩ p.1 p.2) w) := by
  obtain ⟨n, v⟩ := p
  simp only at hp1 hp2 ⊢
  have hb0 := grow1 w (.cells #[.string ⟨n.toArray⟩, .string ⟨v.toArray⟩] 93)
  have hc := has_c name xs u n v _ (hE.below hb0) (h.call hb0) hf (by omega) hp2
  unfold NmBool at hc
  generalize EnS.hasS ⟨name, xs⟩ n v = R at *
  obtain ⟨a, c, rfl, _⟩ := SliceP.form h
  generalize xs.length = m at *
  have q0 := (h1.call hb0).cell 0
  have q1 := (h1.call hb0).cell 1
  simp only [List.getElem?_toArray, List.getElem?_cons_zero, List.getElem?_cons_succ] at q0 q1
  go_enter Tryz.func67, Tryz.ntmps67
  go_wp2_with fail
  refine hc.mono ?_; rintro e w1 ⟨rfl, hb1⟩
  go_wp2_with fail
  go_ret
  exact ⟨rfl, below_trans hb0 hb1⟩

theorem AvasIn.atk {w : World} {v : Value} {xs : List RdS.Pr} (h : AvasIn w v xs) : ∃ a c, v = .slice a xs.length c ∧ xs.length ≤ c ∧ ∀ k (h : k < xs.length), ∃ g o, a = some ⟨g, o, none⟩ ∧ g < w.heap.size ∧ w.cell? ⟨g, o + k * 2, none⟩ = some (strV xs[k].1) ∧ w.cell? ⟨g, o + k * 2 + 1, none⟩ = some (strV xs[k].2) := by
  obtain ⟨a, c, rfl, hc, h⟩ := h
  refine ⟨a, c, rfl, hc, fun k hk => ?_⟩
  rcases h with rfl | ⟨g, o, rfl, hg, h⟩
  · simp at hk
  · exact ⟨g, o, rfl, hg, h k _ (List.getElem?_eq_getElem hk)⟩
/-- is a pair not among an entry's attributes? -/
def lostS (e : EnS.En) (p : RdS.Pr) : Bool := !EnS.hasS e p.1 p.2
theorem any_lost (e : EnS.En) : (EnS.pairsS e.name).any (lostS e) = !EnS.namedS e := by
  unfold EnS.namedS lostS
  rw [List.any_eq_not_all_not]
  congr 1
  congr 1
  funext v
  simp
set_option maxRecDepth 100000 in
theorem idxava_c (name : List UInt8) (xs : List EnS.At) (u : Value) (v : Value) (ps : List RdS.Pr) (b1 : Nat) (w : World) (hE : Env w) (h1 : Whole w b1 24 #[.string ⟨name.toArray⟩, u]) (hu : AttrsIn w u xs) (hf : FitA xs)
    (h : AvasIn w v ps) (hl : ps.length ≤ 1048576) (hx : ∀ p ∈ ps, p.1.length ≤ 1000000 ∧ p.2.length ≤ 1000000) :
    Calls Tryz.prog 96 #[v, .func (.func 67) #[] #[.pointer (some ⟨b1, 0, none⟩)]] w (IdxRetI (ps.findIdx? (lostS ⟨name, xs⟩)) w) := by
  obtain ⟨a, c, rfl, hc, hat⟩ := AvasIn.atk h
  have HAT := Lib.hid hat
  have HX := Lib.hid (fun k (h : k < ps.length) => hx ps[k] (List.getElem_mem h))
  have HC : ∀ p w, Env w → Whole w b1 24 #[.string ⟨name.toArray⟩, u] → AttrsIn w u xs → (p.1.length ≤ 1000000 ∧ p.2.length ≤ 1000000) → Calls Tryz.prog 67 #[.agg #[.string ⟨p.1.toArray⟩, .string ⟨p.2.toArray⟩], .pointer (some ⟨b1, 0, none⟩)] w (NmBool (lostS ⟨name, xs⟩ p) w) := fun p w hE k1 ku hx => namedclo_c name xs u p b1 w hE k1 ku hf hx.1 hx.2
  unfold NmBool at HC
  have HFND := Lib.hid (fun k (hk : k < ps.length) => idx_found (p := lostS ⟨name, xs⟩) hk)
  have HNON := Lib.hid (idx_none (p := lostS ⟨name, xs⟩) (xs := ps))
  have HTM := Lib.hid (fun k (hk : k < ps.length) => take_miss (p := lostS ⟨name, xs⟩) hk)
  generalize ps.findIdx? (lostS ⟨name, xs⟩) = R at *
  generalize lostS ⟨name, xs⟩ = q at *
  have H1 := Lib.hid h1
  have HU := Lib.hid hu
  clear hat hx h h1 hu
  generalize hnn : ps.length = m at hc hl ⊢
  have HN := Lib.hid hnn
  clear hnn
  go_enter Tryz.func96, Tryz.ntmps96
  go_wp2_with fail
  go_loopw [8] (fun i wr => ∃ k : Nat, k ≤ m ∧ i = .int .i64 k ∧ Hid (∀ x ∈ ps.take k, q x = false) ∧ Below w.heap.size w wr) (fun i _ => m - (intOf i).toNat)
  case atStart => exact ⟨0, Nat.zero_le _, rfl, Lib.hid (fun x hx => by cases hx), Below.refl _ _⟩
  case round =>
    obtain ⟨k, hk, rfl, HA, hb⟩ := hrel
    by_cases hlt : k < m
    · have hlt2 : k < ps.length := by rw [HN.out]; exact hlt
      obtain ⟨g, o, rfl, hg, c0, c1⟩ := HAT.out k hlt2
      have c0 := keepC c0 hb
      have c1 := keepC c1 hb
      have hxl := HX.out k hlt2
      have HF := Lib.hid (HFND.out k hlt2 HA.out)
      have HT := Lib.hid (HTM.out k hlt2 HA.out)
      generalize ps[k] = x at *
      have hcl := HC x wr (hE.below hb) (H1.out.call hb) (HU.out.call hb) hxl
      clear hlt2 HFND HNON HTM
      obtain ⟨x1, x2⟩ := x
      unfold strV at c0 c1
      simp only at c0 c1 hcl
      cases hq : q (x1, x2) with
      | true =>
        have HR := Lib.hid (HF.out hq)
        rw [hq] at hcl
        clear hq HF HT
        go_wp2_with fail
        refine hcl.mono ?_; rintro e w1 ⟨rfl, hb1⟩
        go_wp2_with fail
        go_ret
        exact ⟨by rw [HR.out]; rfl, hb.trans (hb1.mono hb.size)⟩
      | false =>
        have HR := Lib.hid (HT.out hq)
        rw [hq] at hcl
        clear hq HF HT
        go_wp2_with fail
        refine hcl.mono ?_; rintro e w1 ⟨rfl, hb1⟩
        go_wp2_with fail
        go_roundw
        case rel => exact ⟨k + 1, by omega, by go_num, HR, hb.trans (hb1.mono hb.size)⟩
        case measure => simp [intOf]; omega
    · have HALL : Hid (R = none) := Lib.hid (HNON.out (by have := HA.out; rwa [List.take_of_length_le (by rw [HN.out]; omega)] at this))
      go_wp2_with fail
      go_ret
      exact ⟨by rw [HALL.out]; rfl, hb⟩

set_option maxRecDepth 100000 in
theorem hasava_c (name : List UInt8) (xs : List EnS.At) (u : Value) (v : Value) (ps : List RdS.Pr) (hps : ps = EnS.pairsS name) (b1 : Nat) (w : World) (hE : Env w) (h1 : Whole w b1 24 #[.string ⟨name.toArray⟩, u]) (hu : AttrsIn w u xs) (hf : FitA xs)
    (h : AvasIn w v ps) :
    Calls Tryz.prog 65 #[v, .func (.func 67) #[] #[.pointer (some ⟨b1, 0, none⟩)]] w (NmBool (!EnS.namedS ⟨name, xs⟩) w) := by
  have hsm := pairs_small name
  rw [← hps] at hsm
  have hi := idxava_c name xs u v ps b1 w hE h1 hu hf h (Nat.le_trans hsm.1 (by decide)) (fun p hp => ⟨Nat.le_trans (hsm.2 p hp).1 (by decide), Nat.le_trans (hsm.2 p hp).2 (by decide)⟩)
  unfold IdxRetI at hi
  have HR : Hid ((!EnS.namedS ⟨name, xs⟩) = (ps.findIdx? (lostS ⟨name, xs⟩)).isSome) := Lib.hid (by rw [find_any2, ← any_lost, hps])
  generalize (!EnS.namedS ⟨name, xs⟩) = R at *
  generalize ps.findIdx? (lostS ⟨name, xs⟩) = I at *
  have HI := Lib.hid (idx_has I)
  generalize idxI I = z at *
  obtain ⟨a, c, rfl, _, _⟩ := AvasIn.atk h
  clear hsm hps
  go_enter Tryz.func65, Tryz.ntmps65
  go_wp2_with fail
  refine hi.mono ?_; rintro e w1 ⟨rfl, hb1⟩
  go_wp2_with fail
  go_ret
  exact ⟨by rw [HR.out, ← HI.out]; rfl, hb1⟩

set_option maxRecDepth 100000 in
theorem ennamed_c (name : List UInt8) (xs : List EnS.At) (u : Value) (w : World) (hE : Env w) (hu : AttrsIn w u xs) (hf : FitA xs) (hn : name.length ≤ 1000000) :
    Calls Tryz.prog 36 #[.agg #[.string ⟨name.toArray⟩, u]] w (NmBool (EnS.namedS ⟨name, xs⟩) w) := by
  have hmf : ∀ (fn : Fn) (first cap : Array Value) (w : World), (Instr.makeFunc fn first cap).run Tryz.prog w = .ok (.func fn first cap) w := fun _ _ _ _ => rfl
  have hb0 := grow1 w (.cells #[.string ⟨name.toArray⟩, u] 24)
  have hw0 := Whole.made w 24 #[.string ⟨name.toArray⟩, u]
  have hp := enpairs_c name hn _ (hE.below hb0)
  have hh := fun v b w hE h1 hu h => hasava_c name xs u v _ rfl b w hE h1 hu hf h
  unfold PairsRet at hp
  unfold NmBool at hh
  generalize EnS.pairsS name = P at *
  have hu0 := hu.call hb0
  generalize EnS.namedS ⟨name, xs⟩ = R at *
  go_enter Tryz.func36, Tryz.ntmps36
  go_wp2_with fail
  refine hp.mono ?_; rintro e w1 ⟨v1, rfl, hv1, hb1⟩
  have hz := below_trans hb0 hb1
  have hcc := hh v1 w.heap.size w1 (hE.below hz) (hw0.call hb1) (hu0.call hb1) hv1
  obtain ⟨a, c, rfl, _, _⟩ := AvasIn.atk hv1
  clear hh hp
  go_wp2_with fail
  refine hcc.mono ?_; rintro e w2 ⟨rfl, hb2⟩
  go_wp2_with fail
  go_ret
  exact ⟨by simp, below_trans hz hb2⟩
end Go.Proofs.YtmnhgbkdahdoiaaGreatDoor
namespace Go.Proofs.YtmnhgbkdahdoiaaGreatDoor
open Go.RowKit

theorem less_self2 (a : List UInt8) : Op.bytesLess a a = false := by rw [RuS.less_iff, RuS.compare_self]; rfl
theorem less_eq2 {a b : List UInt8} (h : Op.bytesLess a b = false) (k : Op.bytesLess b a = false) : a = b := by
  rw [RuS.less_iff] at h k
  have h := of_decide_eq_false h
  have k := of_decide_eq_false k
  have h1 := RuS.compare_swap a b
  have h2 := RuS.compare_range a b
  exact (RuS.compare_zero a b).1 (by omega)
theorem formA_split {last : List UInt8} {a : EnS.At} {l : List EnS.At} {k : Nat} (hk : k < l.length) (h : l[k] = a) (b : Bool) : (EnS.formedA last (l.drop k) && b) = (EnS.formA last a && (EnS.formedA a.typ (l.drop (k + 1)) && b)) := by
  rw [List.drop_eq_getElem_cons hk, EnS.formedA, h, Bool.and_assoc]
theorem formA_end {last : List UInt8} {l : List EnS.At} {k : Nat} (hk : l.length ≤ k) (b : Bool) : (EnS.formedA last (l.drop k) && b) = b := by
  rw [List.drop_eq_nil_of_le hk]; rfl
theorem formA_bad {last : List UInt8} {a : EnS.At} (h : (RuS.typeOf a.typ).1 ≠ a.typ ∨ Op.bytesLess last a.typ = false ∨ a.vals = [] ∨ 20 < a.vals.length ∨ EnS.fineS a.typ a.vals = false ∨ EnS.aloneS a.typ a.vals = false) : EnS.formA last a = false := by
  unfold EnS.formA
  rcases h with h | h | h | h | h | h
  · rw [decide_eq_false h]; rfl
  · rw [h]; simp
  · simp [h]
  · rw [decide_eq_false (show ¬ a.vals.length ≤ 20 by omega)]; simp
  · rw [h]; simp
  · rw [h]; simp
theorem formA_good {last : List UInt8} {a : EnS.At} (h : (RuS.typeOf a.typ).1 = a.typ) (h2 : Op.bytesLess last a.typ = true) (h3 : a.vals ≠ []) (h4 : a.vals.length ≤ 20) (h5 : EnS.fineS a.typ a.vals = true) (h6 : EnS.aloneS a.typ a.vals = true) : EnS.formA last a = true := by
  unfold EnS.formA
  rw [decide_eq_true h, h2, decide_eq_true h3, decide_eq_true h4, h5, h6]; rfl

/-- what stands while the attributes are looked at -/
structure FKeep (xs : List EnS.At) (w : World) (b : Nat) (name : List UInt8) (u : Value) (wr : World) : Prop where
  env : Env wr
  whole : Whole wr b 24 #[.string ⟨name.toArray⟩, u]
  attrs : AttrsIn wr u xs
  below : Below w.heap.size w wr
theorem FKeep.call {xs : List EnS.At} {w : World} {b : Nat} {name : List UInt8} {u : Value} {w1 w2 : World} (h : FKeep xs w b name u w1) (hb : Below w1.heap.size w1 w2) : FKeep xs w b name u w2 :=
  ⟨h.env.below hb, h.whole.call hb, h.attrs.call hb, below_trans h.below hb⟩

set_option maxRecDepth 100000 in
set_option maxHeartbeats 4000000 in
theorem enformed_c (name : List UInt8) (xs : List EnS.At) (u : Value) (w : World) (hE : Env w) (h : AttrsIn w u xs) (hf : FitA xs) (hn : name.length ≤ 1000000) (ht : ∀ x ∈ xs, x.typ.length ≤ 1048576) :
    Calls Tryz.prog 14 #[.agg #[.string ⟨name.toArray⟩, u]] w (NmBool (EnS.formedE ⟨name, xs⟩) w) := by
  have hb0 := grow1 w (.cells #[.string ⟨name.toArray⟩, u] 24)
  have hw0 := Whole.made w 24 #[.string ⟨name.toArray⟩, u]
  have HP : FKeep xs w w.heap.size name u (w.alloc (.cells #[.string ⟨name.toArray⟩, u] 24)) := ⟨hE.below hb0, hw0, h.call hb0, hb0⟩
  have hnm := fun w hE => dnnormal_c name hn w hE
  have HR : Hid (EnS.formedE ⟨name, xs⟩ = (decide (DnS.normN name = (name, 0)) && decide (name ≠ []) && decide (xs.length ≤ 14) && EnS.formedA [] xs && (decide (EnS.valuesS ⟨name, xs⟩ EnS.tClass ≠ []) && EnS.namedS ⟨name, xs⟩))) := Lib.hid (by
    unfold EnS.formedE EnS.looseS
    simp only [Bool.and_assoc])
  have hvl := fun w h => values_c name xs u EnS.tClass w h hf (by decide)
  have hnd := fun w hE h => ennamed_c name xs u w hE h hf hn
  unfold NmTxt at hnm
  unfold OwnRet at hvl
  unfold NmBool at hnd
  have HT := Lib.hid (fun k (h : k < xs.length) (w : World) => type_c ⟨xs[k].typ.toArray⟩ (by show xs[k].typ.toArray.size ≤ _; have := ht _ (List.getElem_mem h); rw [List.size_toArray]; omega) w)
  have HWR := Lib.hid (fun k (hk : k < xs.length) u2 w (hE : Env w) (h : StrsIn w u2 (xs[k]'hk).vals) => enwrong_c xs[k].typ u2 xs[k].vals w hE (ht _ (List.getElem_mem hk)) h (hf.2 _ (List.getElem_mem hk)).1 (hf.2 _ (List.getElem_mem hk)).2)
  have HTW := Lib.hid (fun k (hk : k < xs.length) u2 w (hE : Env w) (h : StrsIn w u2 (xs[k]'hk).vals) => entwice_c xs[k].typ u2 xs[k].vals w hE (ht _ (List.getElem_mem hk)) h (hf.2 _ (List.getElem_mem hk)).1 (hf.2 _ (List.getElem_mem hk)).2)
  have HVN := Lib.hid (fun k (hk : k < xs.length) => (hf.2 _ (List.getElem_mem hk)).1)
  unfold TypeRet at HT
  unfold NmBool at HWR HTW
  have hf1 := hf.1
  generalize EnS.formedE ⟨name, xs⟩ = R at *
  generalize EnS.valuesS ⟨name, xs⟩ EnS.tClass = VS at *
  unfold EnS.tClass at hvl
  generalize EnS.namedS ⟨name, xs⟩ = ND at *
  generalize DnS.normN name = N at *
  obtain ⟨n1, e1⟩ := N
  simp only at hnm
  obtain ⟨a, c, rfl, hc, hat⟩ := SliceP.at h
  have HAT := Lib.hid hat
  have HSP : Hid (∀ (k : Nat) (last : List UInt8) (b : Bool) (hk : k < xs.length), (EnS.formedA last (xs.drop k) && b) = (EnS.formA last xs[k] && (EnS.formedA xs[k].typ (xs.drop (k + 1)) && b))) := Lib.hid fun k last b hk => formA_split hk rfl b
  have HEN : Hid (∀ (k : Nat) (last : List UInt8) (b : Bool) (hk : xs.length ≤ k), (EnS.formedA last (xs.drop k) && b) = b) := Lib.hid fun k last b hk => formA_end hk b
  clear hat hb0 hw0 h hE hf ht
  have HAL : Hid (∀ wr, FKeep xs w w.heap.size name (.slice a xs.length c) wr → Whole wr w.heap.size 24 #[.string ⟨name.toArray⟩, .slice a xs.length c]) := Lib.hid fun _ h => h.whole
  generalize hnn : xs.length = n at hc hf1 HP hvl hnd HR HAL ⊢
  have HN := Lib.hid hnn
  clear hnn
  have HP0 := HP.whole
  have q0 := HP0.cell 0
  have q1 := HP0.cell 1
  simp only [List.getElem?_toArray, List.getElem?_cons_zero, List.getElem?_cons_succ] at q0 q1
  go_enter Tryz.func14, Tryz.ntmps14
  go_wp2_with fail
  refine (hnm _ HP.env).mono ?_; rintro e w1 ⟨rfl, hb1⟩
  have HP1 := HP.call hb1
  have q0 := keepC q0 hb1
  have q1 := keepC q1 hb1
  clear hnm HP hb1 HP0
  by_cases h1 : e1 = 0
  case neg =>
    have he : (e1 != 0) = true := by simpa using h1
    have HQ : Hid (R = false) := Lib.hid (by rw [HR.out, decide_eq_false (by intro hh; exact h1 (congrArg Prod.snd hh))]; rfl)
    go_wp2_with fail
    go_ret
    exact ⟨by rw [HQ.out]; rfl, HP1.below⟩
  subst h1
  by_cases h2 : n1 = name
  case neg =>
    have he : (n1 != name) = true := by simpa using h2
    have HQ : Hid (R = false) := Lib.hid (by rw [HR.out, decide_eq_false (by intro hh; exact h2 (congrArg Prod.fst hh))]; rfl)
    go_wp2_with fail
    go_ret
    exact ⟨by rw [HQ.out]; rfl, HP1.below⟩
  subst h2
  by_cases h3 : n1 = []
  case pos =>
    have HQ : Hid (R = false) := Lib.hid (by rw [HR.out, h3]; simp)
    have he : n1.isEmpty = true := by rw [h3]; rfl
    have he2 : (n1 == []) = true := by rw [h3]; rfl
    clear h3
    go_wp2_with fail
    go_ret
    exact ⟨by rw [HQ.out]; rfl, HP1.below⟩
  have he : n1.isEmpty = false := by cases n1 <;> simp_all
  have he2 : (n1 == []) = false := by cases n1 <;> simp_all
  by_cases h4 : n ≤ 14
  case neg =>
    have HQ : Hid (R = false) := Lib.hid (by rw [HR.out, decide_eq_false h4]; simp)
    clear h3
    go_wp2_with fail
    go_ret
    exact ⟨by rw [HQ.out]; rfl, HP1.below⟩
  have HQ : Hid (R = (EnS.formedA [] (xs.drop 0) && (decide (VS ≠ []) && ND))) := Lib.hid (by rw [HR.out, decide_eq_true rfl, decide_eq_true h3, decide_eq_true h4]; rfl)
  clear h3 HR
  go_wp2_with fail
  go_loopw [5, 37] (fun l i wr => ∃ (k : Nat) (last : List UInt8), k ≤ n ∧ l = .string ⟨last.toArray⟩ ∧ i = .int .i64 k ∧ Hid (R = (EnS.formedA last (xs.drop k) && (decide (VS ≠ []) && ND))) ∧ FKeep xs w w.heap.size n1 (.slice a n c) wr) (fun _ i _ => n - (intOf i).toNat)
  case atStart => exact ⟨0, [], Nat.zero_le _, rfl, rfl, HQ, HP1⟩
  case round =>
    obtain ⟨k, last, hk, rfl, rfl, HA, HK⟩ := hrel
    clear HQ HP1 q0 q1
    by_cases hlt : k < n
    · have hlt2 : k < xs.length := by rw [HN.out]; exact hlt
      have HS := Lib.hid (fun b => HSP.out k last b hlt2)
      have htk := HT.out k hlt2
      have hwk := HWR.out k hlt2
      have htwk := HTW.out k hlt2
      have hvk := HVN.out k hlt2
      obtain ⟨g, o, rfl, hg, _, hra⟩ := HAT.out k hlt2
      obtain ⟨c0, a2, p2, c1, hp2, hu⟩ := AttrAt.parts (AttrAt.call hra hg trivial HK.below)
      have HB := Lib.hid (formA_bad (last := last) (a := xs[k]'hlt2))
      have HG := Lib.hid (formA_good (last := last) (a := xs[k]'hlt2))
      generalize xs[k] = x at *
      obtain ⟨ty, vals⟩ := x
      simp only at c0 c1 hp2 hu htk hwk htwk hvk HS HB HG
      have hg1 := grow1 wr (.cells #[.string ⟨ty.toArray⟩, .slice a2 vals.length p2] 37)
      have hwx := Whole.made wr 37 #[.string ⟨ty.toArray⟩, .slice a2 vals.length p2]
      have hus := hu.strs.call hg1 (Nat.le_refl _)
      have HK1 := HK.call hg1
      have d0 := hwx.cell 0
      have d1 := hwx.cell 1
      simp only [List.getElem?_toArray, List.getElem?_cons_zero, List.getElem?_cons_succ] at d0 d1
      clear hra hlt2 HSP HT HWR HTW HVN hu hvl hnd HEN hwx HAT HAL
      generalize RuS.typeOf ty = TT at *
      obtain ⟨T, sy⟩ := TT
      simp only at htk HB HG
      go_wp2_with fail
      refine (htk _).mono ?_; rintro e w2 ⟨rfl, hb2⟩
      have HK2 := HK1.call hb2
      have dd0 := keepC d0 hb2
      have dd1 := keepC d1 hb2
      clear d0 d1
      have hus2 := hus.call hb2 (Nat.le_refl _)
      clear htk HK HK1 hg1 hb2 hus
      by_cases k1 : T = ty
      case neg =>
        have he1 : (T == ty) = false := by simpa using k1
        have HQ : Hid (R = false) := Lib.hid (by rw [HA.out, HS.out, HB.out (.inl k1)]; rfl)
        go_wp2_with fail
        go_ret
        exact ⟨by rw [HQ.out]; rfl, HK2.below⟩
      subst k1
      cases k2 : Op.bytesLess last T with
      | false =>
        have HQ : Hid (R = false) := Lib.hid (by rw [HA.out, HS.out, HB.out (.inr (.inl k2))]; rfl)
        clear HA HS HB HG hwk htwk
        cases k3 : Op.bytesLess T last with
        | true =>
          go_wp2_with fail
          go_ret
          exact ⟨by rw [HQ.out]; rfl, HK2.below⟩
        | false =>
          obtain rfl := less_eq2 k2 k3
          go_wp2_with fail
          go_ret
          exact ⟨by rw [HQ.out]; rfl, HK2.below⟩
      | true =>
      have k3 : Op.bytesLess T last = false := RdS.less_asymm k2
      have k4 : T ≠ last := fun e => by rw [e, less_self2] at k2; cases k2
      have k5 : (T == last) = false := by simpa using k4
      have k6 : decide (T = last) = false := decide_eq_false k4
      cases hvv : vals with
      | nil =>
        have HQ : Hid (R = false) := Lib.hid (by rw [HA.out, HS.out, HB.out (.inr (.inr (.inl hvv)))]; rfl)
        subst hvv
        clear HA HS HB HG hwk htwk
        go_wp2_with fail
        go_ret
        exact ⟨by rw [HQ.out]; rfl, HK2.below⟩
      | cons v0 vr =>
      rw [← hvv]
      have hne : vals ≠ [] := by rw [hvv]; simp
      have hl1 : 0 < vals.length := by rw [hvv]; simp
      clear hvv v0 vr
      generalize hL : vals.length = L at *
      have hl2 : ((L : Int) == 0) = false := by simp; omega
      have hl3 : decide ((L : Int) = 0) = false := decide_eq_false (by omega)
      by_cases k7 : 20 < L
      case pos =>
        have HQ : Hid (R = false) := Lib.hid (by rw [HA.out, HS.out, HB.out (.inr (.inr (.inr (.inl k7))))]; rfl)
        have hl4 : decide ((20 : Int) < (L : Int)) = true := decide_eq_true (by omega)
        clear HA HS HB HG hwk htwk
        go_wp2_with fail
        go_ret
        exact ⟨by rw [HQ.out]; rfl, HK2.below⟩
      have hl4 : decide ((20 : Int) < (L : Int)) = false := decide_eq_false (by omega)
      have hw2 := hwk _ _ HK2.env hus2
      cases k8 : EnS.fineS T vals with
      | false =>
        have HQ : Hid (R = false) := Lib.hid (by rw [HA.out, HS.out, HB.out (.inr (.inr (.inr (.inr (.inl k8)))))]; rfl)
        rw [k8] at hw2
        clear HA HS HB HG hwk htwk k8
        go_wp2_with fail
        refine hw2.mono ?_; rintro e w3 ⟨rfl, hb3⟩
        have HK3 := HK2.call hb3
        have d1 := keepC dd1 hb3
        go_wp2_with fail
        go_ret
        exact ⟨by rw [HQ.out]; rfl, HK3.below⟩
      | true =>
      rw [k8] at hw2
      cases k9 : EnS.aloneS T vals with
      | false =>
        have HQ : Hid (R = false) := Lib.hid (by rw [HA.out, HS.out, HB.out (.inr (.inr (.inr (.inr (.inr k9)))))]; rfl)
        rw [k9] at htwk
        clear HA HS HB HG hwk k8 k9
        go_wp2_with fail
        refine hw2.mono ?_; rintro e w3 ⟨rfl, hb3⟩
        have HK3 := HK2.call hb3
        have d1 := keepC dd1 hb3
        have ht2 := htwk _ _ HK3.env (hus2.call hb3 (Nat.le_refl _))
        go_wp2_with fail
        refine ht2.mono ?_; rintro e w4 ⟨rfl, hb4⟩
        have HK4 := HK3.call hb4
        go_wp2_with fail
        go_ret
        exact ⟨by rw [HQ.out]; rfl, HK4.below⟩
      | true =>
        have HQ : Hid (R = (EnS.formedA T (xs.drop (k + 1)) && (decide (VS ≠ []) && ND))) := Lib.hid (by rw [HA.out, HS.out, HG.out rfl k2 hne (by omega) k8 k9]; rfl)
        rw [k9] at htwk
        clear HA HS HB HG hwk k8 k9
        go_wp2_with fail
        refine hw2.mono ?_; rintro e w3 ⟨rfl, hb3⟩
        have HK3 := HK2.call hb3
        have d1 := keepC dd1 hb3
        have ht2 := htwk _ _ HK3.env (hus2.call hb3 (Nat.le_refl _))
        go_wp2_with fail
        refine ht2.mono ?_; rintro e w4 ⟨rfl, hb4⟩
        have HK4 := HK3.call hb4
        go_wp2_with fail
        go_roundw
        case rel => exact ⟨k + 1, T, by omega, rfl, by go_num, HQ, HK4⟩
        case measure => simp [intOf]; omega
    · have HQ : Hid (R = (decide (VS ≠ []) && ND)) := Lib.hid (by rw [HA.out, HEN.out k last _ (by rw [HN.out]; omega)])
      have hvl2 := hvl _ HK.attrs
      have q0 := HK.whole.cell 0
      have q1 := HK.whole.cell 1
      simp only [List.getElem?_toArray, List.getElem?_cons_zero, List.getElem?_cons_succ] at q0 q1
      clear HA HEN HSP HT HWR HTW HVN hvl HAT HAL
      cases VS with
      | nil =>
        have HZ : Hid (R = false) := Lib.hid (by rw [HQ.out]; rfl)
        clear HQ hnd
        go_wp2_with fail
        refine hvl2.mono ?_; rintro e w2 ⟨v2, rfl, hown, hb2⟩
        obtain ⟨a3, c3, rfl⟩ := hown.form
        simp only [List.length_nil]
        go_wp2_with fail
        go_ret
        exact ⟨by rw [HZ.out]; rfl, (HK.call hb2).below⟩
      | cons v0 vr =>
        have HZ : Hid (R = ND) := Lib.hid (by rw [HQ.out]; simp)
        have hl1 : 0 < (v0 :: vr).length := by simp
        clear HQ
        go_wp2_with fail
        refine hvl2.mono ?_; rintro e w2 ⟨v2, rfl, hown, hb2⟩
        obtain ⟨a3, c3, rfl⟩ := hown.form
        have HK2 := HK.call hb2
        have q0 := keepC q0 hb2
        have q1 := keepC q1 hb2
        have hn2 := hnd _ HK2.env HK2.attrs
        clear hnd hown
        generalize (v0 :: vr).length = L at *
        go_wp2_with fail
        refine hn2.mono ?_; rintro e w3 ⟨rfl, hb3⟩
        go_wp2_with fail
        go_ret
        exact ⟨by rw [HZ.out]; rfl, (HK2.call hb3).below⟩
end Go.Proofs.YtmnhgbkdahdoiaaGreatDoor
