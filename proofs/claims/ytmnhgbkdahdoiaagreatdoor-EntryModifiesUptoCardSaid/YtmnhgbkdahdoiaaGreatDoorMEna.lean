/- The walks of an entry's values, of what is alike one of them, and of aliases: the program's. Conditions: an entry has at most 1048576 attributes of as many values each, of at most 1000000 bytes; the library's variables are laid. The walks of an entry's values, of what is alike one of them, and of aliases: the document's. Conditions: an entry has at most 1048576 attributes of as many values each, of at most 1000000 bytes; the library's variables are laid. The walks of 'Small' and 'At' of entries (the document's). Conditions: those that each theorem states; the library's variables are laid. -/
import Derived.Test.YtmnhgbkdahdoiaaGreatDoorMDnh
import Derived.Test.YtmnhgbkdahdoiaaGreatDoorMAva
namespace Go.Proofs.YtmnhgbkdahdoiaaGreatDoor
open Go.RowKit

/-- attributes of a size that can be looked at -/
def FitA (xs : List EnS.At) : Prop := xs.length ≤ 1048576 ∧ ∀ x ∈ xs, x.vals.length ≤ 1048576 ∧ ∀ v ∈ x.vals, v.length ≤ 1000000
theorem fit_valuesL : ∀ {xs : List EnS.At} (t : List UInt8), (∀ x ∈ xs, x.vals.length ≤ 1048576 ∧ ∀ v ∈ x.vals, v.length ≤ 1000000) → (EnS.valuesL xs t).length ≤ 1048576 ∧ ∀ v ∈ EnS.valuesL xs t, v.length ≤ 1000000
  | [], _, _ => ⟨Nat.zero_le _, fun v hv => by cases hv⟩
  | a :: l, t, h => by
    unfold EnS.valuesL
    split
    · exact h a (List.mem_cons_self ..)
    · exact fit_valuesL t (fun x hx => h x (List.mem_cons_of_mem _ hx))
theorem fit_values {xs : List EnS.At} (h : FitA xs) (name nm : List UInt8) : (EnS.valuesS ⟨name, xs⟩ nm).length ≤ 1048576 ∧ ∀ v ∈ EnS.valuesS ⟨name, xs⟩ nm, v.length ≤ 1000000 := by
  unfold EnS.valuesS
  split
  · exact ⟨Nat.zero_le _, fun v hv => by cases hv⟩
  · exact fit_valuesL _ h.2
theorem valuesL_hit {xs : List EnS.At} {t : List UInt8} {k : Nat} (hk : k < xs.length) (h : xs[k].typ = t) : EnS.valuesL (xs.drop k) t = xs[k].vals := by
  rw [List.drop_eq_getElem_cons hk]; unfold EnS.valuesL; rw [if_pos h]
theorem valuesL_miss {xs : List EnS.At} {t : List UInt8} {k : Nat} (hk : k < xs.length) (h : xs[k].typ ≠ t) : EnS.valuesL (xs.drop k) t = EnS.valuesL (xs.drop (k + 1)) t := by
  rw [List.drop_eq_getElem_cons hk]; conv => lhs; unfold EnS.valuesL
  rw [if_neg h]
theorem valuesL_end {xs : List EnS.At} {t : List UInt8} {k : Nat} (hk : xs.length ≤ k) : EnS.valuesL (xs.drop k) t = [] := by rw [List.drop_eq_nil_of_le hk]; rfl
def idxI (o : Option Nat) : Int := match o with | some i => (i : Int) | none => -1
theorem idx_found {α : Type} {p : α → Bool} : ∀ {xs : List α} {k : Nat} (hk : k < xs.length), (∀ x ∈ xs.take k, p x = false) → p xs[k] = true → xs.findIdx? p = some k
  | [], k, hk, _, _ => by simp at hk
  | x :: xs, 0, _, _, hp => by rw [List.findIdx?_cons, if_pos (show p x = true from hp)]
  | x :: xs, k + 1, hk, h, hp => by
    rw [List.findIdx?_cons, if_neg (by rw [h x (by simp)]; simp), idx_found (k := k) (by simpa using hk) (fun y hy => h y (by simp [hy])) (by simpa using hp)]
    rfl
theorem idx_none {α : Type} {p : α → Bool} {xs : List α} (h : ∀ x ∈ xs, p x = false) : xs.findIdx? p = none := by
  rw [List.findIdx?_eq_none_iff]; exact h
theorem take_miss {α : Type} {p : α → Bool} {xs : List α} {k : Nat} (hk : k < xs.length) (h : ∀ x ∈ xs.take k, p x = false) (hp : p xs[k] = false) : ∀ x ∈ xs.take (k + 1), p x = false := fun x hx => by
  rw [List.take_succ_eq_append_getElem hk] at hx
  rcases List.mem_append.1 hx with hx | hx
  · exact h x hx
  · have := List.mem_singleton.1 hx; subst this; exact hp

theorem clonestr_c (v : Value) (xs : List (List UInt8)) (w : World) (h : StrsIn w v xs) (hl : xs.length ≤ 1048576) : Calls Tryz.prog 44 #[v] w (OwnRet w xs) := by
  obtain ⟨a, c, rfl, hc, hcase⟩ := h
  cases a with
  | none =>
    have h0 : xs = [] := by
      rcases hcase with h | ⟨g, o, e, _⟩
      · exact h
      · cases e
    subst h0
    refine (Tryz.slices_Clone_string_nil _ _ w).mono ?_
    rintro e w' ⟨rfl, rfl⟩
    exact ⟨_, rfl, Own.empty _ _, Below.refl _ _⟩
  | some ad =>
    rcases hcase with rfl | ⟨g, o, e, hg, hcell⟩
    · refine (Tryz.slices_Clone_string_zero ad c w).mono ?_
      rintro e w' ⟨v', rfl, ho, _, hb⟩
      exact ⟨_, rfl, ho, hb⟩
    · cases e
      refine (Tryz.slices_Clone_string g o xs.length c (xs.map fun l => ⟨l.toArray⟩) w (by simp) (by omega) (fun j hj => ?_)).mono ?_
      · have hj' : j < xs.length := by simpa using hj
        rw [hcell j _ (List.getElem?_eq_getElem hj')]
        unfold strV
        simp [List.getD, hj']
      · rintro e w' ⟨v', rfl, ho, _, hb⟩
        refine ⟨_, rfl, ?_, hb⟩
        have e2 : ((xs.map fun l => (⟨l.toArray⟩ : ByteArray)).take xs.length).map Value.string = xs.map strV := by
          rw [List.take_of_length_le (by simp), List.map_map]; rfl
        rw [e2] at ho
        exact ho

set_option maxRecDepth 100000 in
set_option maxHeartbeats 1000000 in
theorem values_c (name : List UInt8) (xs : List EnS.At) (u : Value) (nm : List UInt8) (w : World) (h : AttrsIn w u xs) (hf : FitA xs) (hnm : nm.length ≤ 1048576) :
    Calls Tryz.prog 24 #[.agg #[.string ⟨name.toArray⟩, u], .string ⟨nm.toArray⟩] w (OwnRet w (EnS.valuesS ⟨name, xs⟩ nm)) := by
  have ht : ∀ w, Calls Tryz.prog 21 #[.string ⟨nm.toArray⟩] w (TypeRet nm w) := fun w => type_c ⟨nm.toArray⟩ (by show nm.toArray.size ≤ _; simp; omega) w
  unfold TypeRet at ht
  have HV : Hid (EnS.valuesS ⟨name, xs⟩ nm = if (RuS.typeOf nm).1 = [] then [] else EnS.valuesL xs (RuS.typeOf nm).1) := Lib.hid rfl
  generalize EnS.valuesS ⟨name, xs⟩ nm = R at *
  generalize RuS.typeOf nm = TT at *
  obtain ⟨T, sy⟩ := TT
  simp only at ht HV
  obtain ⟨hl, hv⟩ := hf
  obtain ⟨a, c, rfl, hc, hat⟩ := SliceP.at h
  have HAT := Lib.hid hat
  have HFV := Lib.hid (fun k (h : k < xs.length) => (hv xs[k] (List.getElem_mem h)).1)
  have hbx := grow1 w (.cells #[.string ⟨name.toArray⟩, .slice a xs.length c] 24)
  have hwx := Whole.made w 24 #[.string ⟨name.toArray⟩, .slice a xs.length c]
  clear hat h hv
  generalize hn : xs.length = n at hc hl hbx hwx ⊢
  have HN := Lib.hid hn
  clear hn
  by_cases hT : T = []
  · have hT0 : T.isEmpty = true := by rw [hT]; rfl
    have hT1 : (T != []) = false := by rw [hT]; rfl
    have hT2 : (T == []) = true := by rw [hT]; rfl
    have HR : Hid (R = []) := Lib.hid (by rw [HV.out, if_pos hT])
    clear HV hT
    go_enter Tryz.func24, Tryz.ntmps24
    go_wp2_with fail
    refine (ht _).mono ?_; rintro e w1 ⟨rfl, hb1⟩
    have hz := below_trans hbx hb1
    have hw1 := hwx.call hb1
    have q0 := hw1.cell 0
    have q1 := hw1.cell 1
    simp only [List.getElem?_toArray, List.getElem?_cons_zero, List.getElem?_cons_succ] at q0 q1
    clear hbx hb1 hw1 hwx
    go_wp2_with fail
    go_loopw [17] (fun i wr => ∃ k : Nat, k ≤ n ∧ i = .int .i64 k ∧ Below w.heap.size w wr) (fun i _ => n - (intOf i).toNat)
    case atStart => exact ⟨0, Nat.zero_le _, rfl, hz⟩
    case round =>
      obtain ⟨k, hk, rfl, hb⟩ := hrel
      by_cases hlt : k < n
      · have hlt2 : k < xs.length := by rw [HN.out]; exact hlt
        obtain ⟨g, o, rfl, hg, _, hra⟩ := HAT.out k hlt2
        obtain ⟨c0, a2, p2, c1, hp2, hu⟩ := AttrAt.parts (AttrAt.call hra hg trivial hb)
        generalize xs[k] = x at *
        obtain ⟨ty, vals⟩ := x
        simp only at c0 c1 hp2
        clear hra hlt2 hu
        generalize vals.length = n2 at *
        have hbg := hb.alloc hb.size (.cells #[.string ⟨ty.toArray⟩, .slice a2 n2 p2] 37)
        cases hq : (ty == T) with
        | true =>
          go_wp2_with fail
          go_roundw
          case rel => exact ⟨k + 1, by omega, by go_num, hbg⟩
          case measure => simp [intOf]; omega
        | false =>
          go_wp2_with fail
          go_roundw
          case rel => exact ⟨k + 1, by omega, by go_num, hbg⟩
          case measure => simp [intOf]; omega
      · have hkn : k = n := by omega
        subst hkn
        go_wp2_with fail
        go_ret
        exact ⟨_, rfl, by rw [HR.out]; exact Own.empty _ _, hb⟩
  · have hT0 : T.isEmpty = false := by cases T <;> simp_all
    have hT1 : (T != []) = true := by cases T <;> simp_all
    have hT2 : (T == []) = false := by cases T <;> simp_all
    have HR : Hid (R = EnS.valuesL (xs.drop 0) T) := Lib.hid (by rw [HV.out, if_neg hT]; rfl)
    clear HV hT
    go_enter Tryz.func24, Tryz.ntmps24
    go_wp2_with fail
    refine (ht _).mono ?_; rintro e w1 ⟨rfl, hb1⟩
    have hz := below_trans hbx hb1
    have hw1 := hwx.call hb1
    have q0 := hw1.cell 0
    have q1 := hw1.cell 1
    simp only [List.getElem?_toArray, List.getElem?_cons_zero, List.getElem?_cons_succ] at q0 q1
    clear hbx hb1 hw1 hwx
    go_wp2_with fail
    go_loopw [17] (fun i wr => ∃ k : Nat, k ≤ n ∧ i = .int .i64 k ∧ Hid (R = EnS.valuesL (xs.drop k) T) ∧ Below w.heap.size w wr) (fun i _ => n - (intOf i).toNat)
    case atStart => exact ⟨0, Nat.zero_le _, rfl, HR, hz⟩
    case round =>
      obtain ⟨k, hk, rfl, HQ, hb⟩ := hrel
      clear HR
      by_cases hlt : k < n
      · have hlt2 : k < xs.length := by rw [HN.out]; exact hlt
        obtain ⟨g, o, rfl, hg, _, hra⟩ := HAT.out k hlt2
        obtain ⟨c0, a2, p2, c1, hp2, hu⟩ := AttrAt.parts (AttrAt.call hra hg trivial hb)
        have HHIT := Lib.hid (fun he => valuesL_hit (t := T) hlt2 he)
        have HMISS := Lib.hid (fun he => valuesL_miss (t := T) hlt2 he)
        have hvl := HFV.out k hlt2
        generalize xs[k] = x at *
        obtain ⟨ty, vals⟩ := x
        simp only at c0 c1 hp2 hu HHIT HMISS hvl
        clear hra hlt2
        have hbg := hb.alloc hb.size (.cells #[.string ⟨ty.toArray⟩, .slice a2 vals.length p2] 37)
        have hsu := hu.strs
        have hsu2 := hsu.call (grow1 wr (.cells #[.string ⟨ty.toArray⟩, .slice a2 vals.length p2] 37)) (Nat.le_refl _)
        clear hu hsu
        cases hq : (ty == T) with
        | true =>
          have HE : Hid (R = vals) := Lib.hid (by rw [HQ.out]; exact HHIT.out (beq_iff_eq.1 hq))
          have hcl := clonestr_c _ vals _ hsu2 hvl
          unfold OwnRet at hcl
          go_wp2_with fail
          refine hcl.mono ?_; rintro e w2 ⟨v2, rfl, hown, hb2⟩
          go_wp2_with fail
          go_ret
          exact ⟨_, rfl, by rw [HE.out]; exact hown.mono hbg.size, hbg.trans (hb2.mono hbg.size)⟩
        | false =>
          have HE : Hid (R = EnS.valuesL (xs.drop (k + 1)) T) := Lib.hid (by rw [HQ.out]; exact HMISS.out (by simpa using hq))
          clear hsu2
          generalize vals.length = n2 at *
          go_wp2_with fail
          go_roundw
          case rel => exact ⟨k + 1, by omega, by go_num, HE, hbg⟩
          case measure => simp [intOf]; omega
      · have HE : Hid (R = []) := Lib.hid (by rw [HQ.out]; exact valuesL_end (by rw [HN.out]; omega))
        go_wp2_with fail
        go_ret
        exact ⟨_, rfl, by rw [HE.out]; exact Own.empty _ _, hb⟩

set_option maxRecDepth 100000 in
theorem findclo_c (nm n v : List UInt8) (b1 b2 : Nat) (w : World) (hE : Env w) (h1 : w.cell? ⟨b1, 0, none⟩ = some (strV nm)) (h2 : w.cell? ⟨b2, 0, none⟩ = some (strV n)) (hn : nm.length ≤ 1048576) (hv : v.length ≤ 1000000) :
    Calls Tryz.prog 69 #[.string ⟨v.toArray⟩, .pointer (some ⟨b1, 0, none⟩), .pointer (some ⟨b2, 0, none⟩)] w (NmBool (EnS.meetS nm n v) w) := by
  have hc := dnvalue_c nm v hn hv w hE
  unfold NmTxt at hc
  have HR : Hid (EnS.meetS nm n v = (decide ((DnS.valueS nm v).2 = 0) && ((DnS.valueS nm v).1 == n))) := Lib.hid rfl
  generalize EnS.meetS nm n v = R at *
  generalize DnS.valueS nm v = V at *
  obtain ⟨m, e0⟩ := V
  simp only at hc HR
  unfold strV at h1 h2
  by_cases he : e0 = 0
  · subst he
    go_enter Tryz.func69, Tryz.ntmps69
    go_wp2_with fail
    refine hc.mono ?_; rintro e w1 ⟨rfl, hb1⟩
    have h3 := keepC h2 hb1
    go_wp2_with fail
    go_ret
    exact ⟨by rw [HR.out]; simp, hb1⟩
  · have hez : (e0 == 0) = false := by simpa using he
    go_enter Tryz.func69, Tryz.ntmps69
    go_wp2_with fail
    refine hc.mono ?_; rintro e w1 ⟨rfl, hb1⟩
    go_wp2_with fail
    go_ret
    exact ⟨by rw [HR.out, decide_eq_false he]; rfl, hb1⟩

def IdxRetI (o : Option Nat) (w : World) (e : Ending) (w' : World) : Prop := e = .returned (.int .i64 (idxI o)) ∧ Below w.heap.size w w'
set_option maxRecDepth 100000 in
theorem idxstr_c (nm n : List UInt8) (v : Value) (xs : List (List UInt8)) (b1 b2 : Nat) (w : World) (hE : Env w) (h1 : w.cell? ⟨b1, 0, none⟩ = some (strV nm)) (h2 : w.cell? ⟨b2, 0, none⟩ = some (strV n)) (hn : nm.length ≤ 1048576)
    (h : StrsIn w v xs) (hl : xs.length ≤ 1048576) (hx : ∀ x ∈ xs, x.length ≤ 1000000) :
    Calls Tryz.prog 68 #[v, .func (.func 69) #[] #[.pointer (some ⟨b1, 0, none⟩), .pointer (some ⟨b2, 0, none⟩)]] w (IdxRetI (xs.findIdx? (EnS.meetS nm n)) w) := by
  obtain ⟨a, c, rfl, hc, hat⟩ := SliceP.at (h.strsP (fun _ => True) (fun _ _ => trivial))
  have HAT := Lib.hid hat
  have HX := Lib.hid (fun k (h : k < xs.length) => hx xs[k] (List.getElem_mem h))
  have HC := fun x w hE k1 k2 hx => findclo_c nm n x b1 b2 w hE k1 k2 hn hx
  unfold NmBool at HC
  have HFND := Lib.hid (fun k (hk : k < xs.length) => idx_found (p := EnS.meetS nm n) hk)
  have HNON := Lib.hid (idx_none (p := EnS.meetS nm n) (xs := xs))
  have HTM := Lib.hid (fun k (hk : k < xs.length) => take_miss (p := EnS.meetS nm n) hk)
  generalize xs.findIdx? (EnS.meetS nm n) = R at *
  generalize EnS.meetS nm n = p at *
  clear hat hx h
  generalize hnn : xs.length = m at hc hl ⊢
  have HN := Lib.hid hnn
  clear hnn
  go_enter Tryz.func68, Tryz.ntmps68
  go_wp2_with fail
  go_loopw [8] (fun i wr => ∃ k : Nat, k ≤ m ∧ i = .int .i64 k ∧ Hid (∀ x ∈ xs.take k, p x = false) ∧ Below w.heap.size w wr) (fun i _ => m - (intOf i).toNat)
  case atStart => exact ⟨0, Nat.zero_le _, rfl, Lib.hid (fun x hx => by cases hx), Below.refl _ _⟩
  case round =>
    obtain ⟨k, hk, rfl, HA, hb⟩ := hrel
    by_cases hlt : k < m
    · have hlt2 : k < xs.length := by rw [HN.out]; exact hlt
      obtain ⟨g, o, rfl, hg, _, hra⟩ := HAT.out k hlt2
      have c0 : wr.cell? ⟨g, o + k, none⟩ = some (strV xs[k]) := by
        have : w.cell? ⟨g, o + k * 1, none⟩ = some (strV xs[k]) := hra
        rw [Nat.mul_one] at this
        exact keepC this hb
      have k1 := keepC h1 hb
      have k2 := keepC h2 hb
      have hxl := HX.out k hlt2
      have HF := Lib.hid (HFND.out k hlt2 HA.out)
      have HT := Lib.hid (HTM.out k hlt2 HA.out)
      generalize xs[k] = x at *
      unfold strV at c0
      have hcl := HC x wr (hE.below hb) k1 k2 hxl
      clear hra hlt2 HFND HNON HTM
      cases hq : p x with
      | true =>
        have HR := Lib.hid (HF.out hq)
        rw [hq] at hcl
        clear hq HF HT
        go_wp2_with fail
        refine hcl.mono ?_; rintro e w1 ⟨rfl, hb1⟩
        go_wp2_with fail
        go_ret
        exact ⟨by rw [HR.out]; rfl, hb.trans (hb1.mono hb.size)⟩
      | false =>
        have HR := Lib.hid (HT.out hq)
        rw [hq] at hcl
        clear hq HF HT
        go_wp2_with fail
        refine hcl.mono ?_; rintro e w1 ⟨rfl, hb1⟩
        go_wp2_with fail
        go_roundw
        case rel => exact ⟨k + 1, by omega, by go_num, HR, hb.trans (hb1.mono hb.size)⟩
        case measure => simp [intOf]; omega
    · have HALL : Hid (R = none) := Lib.hid (HNON.out (by have := HA.out; rwa [List.take_of_length_le (by rw [HN.out]; omega)] at this))
      go_wp2_with fail
      go_ret
      exact ⟨by rw [HALL.out]; rfl, hb⟩

set_option maxRecDepth 100000 in
theorem find_c (nm v : List UInt8) (u : Value) (xs : List (List UInt8)) (w : World) (hE : Env w) (hn : nm.length ≤ 1048576) (hv : v.length ≤ 1000000) (h : StrsIn w u xs) (hl : xs.length ≤ 1048576) (hx : ∀ x ∈ xs, x.length ≤ 1000000) :
    Calls Tryz.prog 38 #[.string ⟨nm.toArray⟩, u, .string ⟨v.toArray⟩] w (IdxRetI (EnS.findI nm xs v) w) := by
  have hmf : ∀ (fn : Fn) (first cap : Array Value) (w : World), (Instr.makeFunc fn first cap).run Tryz.prog w = .ok (.func fn first cap) w := fun _ _ _ _ => rfl
  have hb0 := grow1 w (.cells #[.string ⟨nm.toArray⟩] 9)
  have hw0 := Whole.made w 9 #[.string ⟨nm.toArray⟩]
  have hc := dnvalue_c nm v hn hv _ (hE.below hb0)
  unfold NmTxt at hc
  have HR : Hid (EnS.findI nm xs v = if (DnS.valueS nm v).2 = 0 then xs.findIdx? (EnS.meetS nm (DnS.valueS nm v).1) else none) := Lib.hid rfl
  generalize EnS.findI nm xs v = R at *
  generalize DnS.valueS nm v = V at *
  obtain ⟨n, e0⟩ := V
  simp only at hc HR
  have hi := fun w b1 b2 hE h1 h2 h => idxstr_c nm n u xs b1 b2 w hE h1 h2 hn h hl hx
  unfold IdxRetI at hi
  obtain ⟨a, c, rfl⟩ := h.form
  generalize hm : xs.length = m at hl h hi ⊢
  by_cases he : e0 = 0
  · subst he
    rw [if_pos rfl] at HR
    generalize xs.findIdx? (EnS.meetS nm n) = I at *
    go_enter Tryz.func38, Tryz.ntmps38
    go_wp2_with fail
    refine hc.mono ?_; rintro e w1 ⟨rfl, hb1⟩
    have hz := below_trans hb0 hb1
    have k0 := hw0.call hb1
    have hg1 := grow1 w1 (.cells #[.string ⟨n.toArray⟩] 9)
    have hw1 := Whole.made w1 9 #[.string ⟨n.toArray⟩]
    have k1 := k0.call hg1
    have hE1 := (hE.below hz).below hg1
    have hh1 := (h.call hz (Nat.le_refl _)).call hg1 (Nat.le_refl _)
    have hii := hi _ w.heap.size w1.heap.size hE1 (k1.cell 0) (hw1.cell 0) hh1
    have hzz := below_trans hz hg1
    clear hi hg1 k0 hb1 hE1 hh1 k1 hw1 hz
    go_wp2_with fail
    refine hii.mono ?_; rintro e w2 ⟨rfl, hb2⟩
    go_wp2_with fail
    go_ret
    exact ⟨by rw [HR.out]; rfl, below_trans hzz hb2⟩
  · have hez : (e0 != 0) = true := by simpa using he
    rw [if_neg he] at HR
    clear hi
    go_enter Tryz.func38, Tryz.ntmps38
    go_wp2_with fail
    refine hc.mono ?_; rintro e w1 ⟨rfl, hb1⟩
    go_wp2_with fail
    go_ret
    exact ⟨by rw [HR.out]; rfl, below_trans (below_trans hb0 hb1) (grow1 w1 _)⟩

theorem idx_has (o : Option Nat) : decide (0 ≤ idxI o) = o.isSome := by
  cases o with
  | none => rfl
  | some i => simp [idxI]
set_option maxRecDepth 100000 in
theorem has_c (name : List UInt8) (xs : List EnS.At) (u : Value) (nm v : List UInt8) (w : World) (hE : Env w) (h : AttrsIn w u xs) (hf : FitA xs) (hnm : nm.length ≤ 1048576) (hv : v.length ≤ 1000000) :
    Calls Tryz.prog 17 #[.agg #[.string ⟨name.toArray⟩, u], .string ⟨nm.toArray⟩, .string ⟨v.toArray⟩] w (NmBool (EnS.hasS ⟨name, xs⟩ nm v) w) := by
  have hbx := grow1 w (.cells #[.string ⟨name.toArray⟩, u] 24)
  have hvl := values_c name xs u nm _ (h.call hbx) hf hnm
  have hfv := fit_values hf name nm
  have HR : Hid (EnS.hasS ⟨name, xs⟩ nm v = (EnS.findI nm (EnS.valuesS ⟨name, xs⟩ nm) v).isSome) := Lib.hid (by rw [EnS.find_within]; rfl)
  unfold OwnRet at hvl
  generalize EnS.hasS ⟨name, xs⟩ nm v = R at *
  generalize EnS.valuesS ⟨name, xs⟩ nm = vals at *
  have hfd := fun u2 w hE h => find_c nm v u2 vals w hE hnm hv h hfv.1 hfv.2
  unfold IdxRetI at hfd
  generalize EnS.findI nm vals v = I at *
  have HI := Lib.hid (idx_has I)
  generalize idxI I = z at *
  obtain ⟨a, c, rfl, _⟩ := SliceP.form h
  generalize xs.length = n at *
  go_enter Tryz.func17, Tryz.ntmps17
  go_wp2_with fail
  refine hvl.mono ?_; rintro e w1 ⟨v1, rfl, hown, hb1⟩
  have hz := below_trans hbx hb1
  go_wp2_with fail
  refine (hfd _ _ (hE.below hz) hown.strs).mono ?_; rintro e w2 ⟨rfl, hb2⟩
  go_wp2_with fail
  go_ret
  exact ⟨by rw [HR.out, ← HI.out]; rfl, below_trans hz hb2⟩

end Go.Proofs.YtmnhgbkdahdoiaaGreatDoor
namespace Go.Proofs.YtmnhgbkdahdoiaaGreatDoor
open Go.RowKit

theorem Own.made0 (w : World) : Own (w.alloc (.cells #[] 9)) w.heap.size (.slice (some ⟨w.heap.size, 0, none⟩) 0 0) [] := World.ownsRow_made w #[] 0 (Nat.le_refl _) (Nat.zero_le _) rfl
theorem build0 (w : World) : (Instr.buildSlice 35 0 #[]).run Tryz.prog w = .ok (.slice (some ⟨w.heap.size, 0, none⟩) 0 0) (w.alloc (.cells #[] 9)) := by
  obtain ⟨i0, hi, hz0, hz1, hz2⟩ := info_parts infoStr
  simp [Instr.buildSlice, run_underlying Tryz.underlying35, sizeOf, typeInfo, hi, newRow, Instr.fill]
  have e : ∀ f : Nat → Value, Array.map f (Array.range 0) = #[] := fun f => Array.eq_empty_of_size_eq_zero (by simp)
  rw [e]
set_option maxRecDepth 100000 in
set_option maxHeartbeats 1000000 in
theorem refvalues_c (name : List UInt8) (xs : List EnS.At) (u : Value) (nm : List UInt8) (w : World) (h : AttrsIn w u xs) (hf : FitA xs) (hnm : nm.length ≤ 1048576) :
    Calls Tryz.prog 16 #[.agg #[.string ⟨name.toArray⟩, u], .string ⟨nm.toArray⟩] w (OwnRet w (EnS.valuesS ⟨name, xs⟩ nm)) := by
  have hbs := build0
  have ht : ∀ w, Calls Tryz.prog 27 #[.string ⟨nm.toArray⟩] w (TypeRet nm w) := fun w => reftype_c ⟨nm.toArray⟩ (by show nm.toArray.size ≤ _; simp; omega) w
  unfold TypeRet at ht
  have HV : Hid (EnS.valuesS ⟨name, xs⟩ nm = if (RuS.typeOf nm).1 = [] then [] else EnS.valuesL xs (RuS.typeOf nm).1) := Lib.hid rfl
  generalize EnS.valuesS ⟨name, xs⟩ nm = R at *
  generalize RuS.typeOf nm = TT at *
  obtain ⟨T, sy⟩ := TT
  simp only at ht HV
  obtain ⟨hl, hv⟩ := hf
  obtain ⟨a, c, rfl, hc, hat⟩ := SliceP.at h
  have HAT := Lib.hid hat
  have HFV := Lib.hid (fun k (h : k < xs.length) => (hv xs[k] (List.getElem_mem h)).1)
  have hbx := grow1 w (.cells #[.string ⟨name.toArray⟩, .slice a xs.length c] 24)
  have hwx := Whole.made w 24 #[.string ⟨name.toArray⟩, .slice a xs.length c]
  clear hat h hv
  generalize hn : xs.length = n at hc hl hbx hwx ⊢
  have HN := Lib.hid hn
  clear hn
  by_cases hT : T = []
  · have hT0 : T.isEmpty = true := by rw [hT]; rfl
    have hT2 : (T == []) = true := by rw [hT]; rfl
    have HR : Hid (R = []) := Lib.hid (by rw [HV.out, if_pos hT])
    clear HV hT
    go_enter Tryz.func16, Tryz.ntmps16
    go_wp2_with fail
    refine (ht _).mono ?_; rintro e w1 ⟨rfl, hb1⟩
    go_wp2_with fail
    go_ret
    exact ⟨_, rfl, by rw [HR.out]; exact Own.empty _ _, below_trans hbx hb1⟩
  · have hT0 : T.isEmpty = false := by cases T <;> simp_all
    have hT2 : (T == []) = false := by cases T <;> simp_all
    have HR : Hid (R = EnS.valuesL (xs.drop 0) T) := Lib.hid (by rw [HV.out, if_neg hT]; rfl)
    clear HV hT
    go_enter Tryz.func16, Tryz.ntmps16
    go_wp2_with fail
    refine (ht _).mono ?_; rintro e w1 ⟨rfl, hb1⟩
    have hz := below_trans hbx hb1
    have hw1 := hwx.call hb1
    have q0 := hw1.cell 0
    have q1 := hw1.cell 1
    simp only [List.getElem?_toArray, List.getElem?_cons_zero, List.getElem?_cons_succ] at q0 q1
    clear hbx hb1 hw1 hwx
    go_wp2_with fail
    go_loop [18] (fun i => ∃ k : Nat, k ≤ n ∧ i = .int .i64 k ∧ Hid (R = EnS.valuesL (xs.drop k) T)) (fun i => n - (intOf i).toNat)
    case atStart => exact ⟨0, Nat.zero_le _, rfl, HR⟩
    case round =>
      obtain ⟨k, hk, rfl, HQ⟩ := hrel
      clear HR
      by_cases hlt : k < n
      · have hlt2 : k < xs.length := by rw [HN.out]; exact hlt
        obtain ⟨g, o, rfl, hg, _, hra⟩ := HAT.out k hlt2
        obtain ⟨c0, a2, p2, c1, hp2, hu⟩ := AttrAt.parts (AttrAt.call hra hg trivial hz)
        have HHIT := Lib.hid (fun he => valuesL_hit (t := T) hlt2 he)
        have HMISS := Lib.hid (fun he => valuesL_miss (t := T) hlt2 he)
        have hvl := HFV.out k hlt2
        generalize xs[k] = x at *
        obtain ⟨ty, vals⟩ := x
        simp only at c0 c1 hp2 hu HHIT HMISS hvl
        clear hra hlt2
        have hsu := hu.strs
        clear hu
        cases hq : (ty == T) with
        | true =>
          have HE : Hid (R = vals) := Lib.hid (by rw [HQ.out]; exact HHIT.out (beq_iff_eq.1 hq))
          have hm0 := Own.made0 w1
          have hg1 := grow1 w1 (.cells #[] 9)
          have hsu2 := hsu.call hg1 (Nat.le_refl _)
          have r0 := keepC q0 hg1
          have r1 := keepC q1 hg1
          have r2 := keepC c1 hg1
          go_wp2_with (at_builtin; refine push_strs (by rfl) _ _ (by rfl) w1.heap.size _ [] (by rfl) hm0 _ vals (by rfl) hsu2 ?e1 ?e2 ?_)
          case e1 => first | omega | (simp; omega)
          intro v' w2 hown2 hb2
          go_wp2_with fail
          go_ret
          exact ⟨_, rfl, by rw [HE.out]; exact hown2.mono hz.size, below_trans hz (hg1.trans hb2)⟩
        | false =>
          have HE : Hid (R = EnS.valuesL (xs.drop (k + 1)) T) := Lib.hid (by rw [HQ.out]; exact HMISS.out (by simpa using hq))
          go_wp2_with fail
          go_round
          case rel => exact ⟨k + 1, by omega, by go_num, HE⟩
          case measure => simp [intOf]; omega
      · have HE : Hid (R = []) := Lib.hid (by rw [HQ.out]; exact valuesL_end (by rw [HN.out]; omega))
        go_wp2_with fail
        go_ret
        exact ⟨_, rfl, by rw [HE.out]; exact Own.empty _ _, hz⟩

theorem any_found {α : Type} {p : α → Bool} {xs : List α} {k : Nat} (hk : k < xs.length) (hp : p xs[k] = true) : xs.any p = true := List.any_eq_true.2 ⟨_, List.getElem_mem hk, hp⟩
theorem any_none {α : Type} {p : α → Bool} {xs : List α} (h : ∀ x ∈ xs, p x = false) : xs.any p = false := by
  rw [List.any_eq_false]
  intro x hx
  rw [h x hx]
  simp
set_option maxRecDepth 100000 in
set_option maxHeartbeats 1000000 in
theorem enwithin_c (nm v : List UInt8) (u : Value) (xs : List (List UInt8)) (w : World) (hE : Env w) (hn : nm.length ≤ 1048576) (hv : v.length ≤ 1000000) (h : StrsIn w u xs) (hl : xs.length ≤ 1048576) (hx : ∀ x ∈ xs, x.length ≤ 1000000) :
    Calls Tryz.prog 56 #[.string ⟨nm.toArray⟩, u, .string ⟨v.toArray⟩] w (NmBool (EnS.withinS nm xs v) w) := by
  have hc := rnvalue_c nm v hn hv w hE
  have hd := fun x w hx hE => rnvalue_c nm x hn hx w hE
  unfold NmTxt at hc hd
  have HR : Hid (EnS.withinS nm xs v = (decide ((DnS.valueS nm v).2 = 0) && xs.any (EnS.meetS nm (DnS.valueS nm v).1))) := Lib.hid rfl
  generalize EnS.withinS nm xs v = R at *
  generalize DnS.valueS nm v = V at *
  obtain ⟨n, e0⟩ := V
  simp only at hc HR
  by_cases he : e0 = 0
  · subst he
    have HM : Hid (∀ x, EnS.meetS nm n x = (decide ((DnS.valueS nm x).2 = 0) && ((DnS.valueS nm x).1 == n))) := Lib.hid (fun _ => rfl)
    have HFND := Lib.hid (fun k (hk : k < xs.length) => any_found (p := EnS.meetS nm n) hk)
    have HNON := Lib.hid (any_none (p := EnS.meetS nm n) (xs := xs))
    have HTM := Lib.hid (fun k (hk : k < xs.length) => take_miss (p := EnS.meetS nm n) hk)
    have HR2 : Hid (R = xs.any (EnS.meetS nm n)) := Lib.hid (by rw [HR.out]; simp)
    generalize EnS.meetS nm n = p at *
    obtain ⟨a, c, rfl, hcap, hat⟩ := SliceP.at (h.strsP (fun _ => True) (fun _ _ => trivial))
    have HAT := Lib.hid hat
    have HX := Lib.hid (fun k (h : k < xs.length) => hx xs[k] (List.getElem_mem h))
    clear hat hx h HR
    generalize hnn : xs.length = m at hcap hl ⊢
    have HN := Lib.hid hnn
    clear hnn
    go_enter Tryz.func56, Tryz.ntmps56
    go_wp2_with fail
    refine hc.mono ?_; rintro e w1 ⟨rfl, hb1⟩
    go_wp2_with fail
    go_loopw [22] (fun i wr => ∃ k : Nat, k ≤ m ∧ i = .int .i64 k ∧ Hid (∀ x ∈ xs.take k, p x = false) ∧ Below w.heap.size w wr) (fun i _ => m - (intOf i).toNat)
    case atStart => exact ⟨0, Nat.zero_le _, rfl, Lib.hid (fun x hx => by cases hx), hb1⟩
    case round =>
      obtain ⟨k, hk, rfl, HA, hb⟩ := hrel
      by_cases hlt : k < m
      · have hlt2 : k < xs.length := by rw [HN.out]; exact hlt
        obtain ⟨g, o, rfl, hg, _, hra⟩ := HAT.out k hlt2
        have c0 : wr.cell? ⟨g, o + k, none⟩ = some (strV xs[k]) := by
          have : w.cell? ⟨g, o + k * 1, none⟩ = some (strV xs[k]) := hra
          rw [Nat.mul_one] at this
          exact keepC this hb
        have hxl := HX.out k hlt2
        have HF := Lib.hid (HFND.out k hlt2)
        have HT := Lib.hid (HTM.out k hlt2 HA.out)
        generalize xs[k] = x at *
        unfold strV at c0
        have hcl := hd x wr hxl (hE.below hb)
        have HMX := Lib.hid (HM.out x)
        generalize DnS.valueS nm x = V at *
        obtain ⟨mm, e1⟩ := V
        simp only at hcl HMX
        clear hra hlt2 HFND HNON HTM hd HM
        by_cases he1 : e1 = 0
        · subst he1
          cases hq : (mm == n) with
          | true =>
            have HE : Hid (R = true) := Lib.hid (by rw [HR2.out]; exact HF.out (by rw [HMX.out, hq]; rfl))
            go_wp2_with fail
            refine hcl.mono ?_; rintro e w2 ⟨rfl, hb2⟩
            go_wp2_with fail
            go_ret
            exact ⟨by rw [HE.out]; rfl, hb.trans (hb2.mono hb.size)⟩
          | false =>
            have HE := Lib.hid (HT.out (by rw [HMX.out, hq]; rfl))
            go_wp2_with fail
            refine hcl.mono ?_; rintro e w2 ⟨rfl, hb2⟩
            go_wp2_with fail
            go_roundw
            case rel => exact ⟨k + 1, by omega, by go_num, HE, hb.trans (hb2.mono hb.size)⟩
            case measure => simp [intOf]; omega
        · have hez : (e1 == 0) = false := by simpa using he1
          have HE := Lib.hid (HT.out (by rw [HMX.out, decide_eq_false he1]; rfl))
          go_wp2_with fail
          refine hcl.mono ?_; rintro e w2 ⟨rfl, hb2⟩
          go_wp2_with fail
          go_roundw
          case rel => exact ⟨k + 1, by omega, by go_num, HE, hb.trans (hb2.mono hb.size)⟩
          case measure => simp [intOf]; omega
      · have HE : Hid (R = false) := Lib.hid (by rw [HR2.out]; exact HNON.out (by have := HA.out; rwa [List.take_of_length_le (by rw [HN.out]; omega)] at this))
        go_wp2_with fail
        go_ret
        exact ⟨by rw [HE.out]; rfl, hb⟩
  · have hez : (e0 != 0) = true := by simpa using he
    have HE : Hid (R = false) := Lib.hid (by rw [HR.out, decide_eq_false he]; rfl)
    obtain ⟨a, c, rfl⟩ := h.form
    clear hd
    go_enter Tryz.func56, Tryz.ntmps56
    go_wp2_with fail
    refine hc.mono ?_; rintro e w1 ⟨rfl, hb1⟩
    go_wp2_with fail
    go_ret
    exact ⟨by rw [HE.out]; rfl, hb1⟩

set_option maxRecDepth 100000 in
theorem refhas_c (name : List UInt8) (xs : List EnS.At) (u : Value) (nm v : List UInt8) (w : World) (hE : Env w) (h : AttrsIn w u xs) (hf : FitA xs) (hnm : nm.length ≤ 1048576) (hv : v.length ≤ 1000000) :
    Calls Tryz.prog 61 #[.agg #[.string ⟨name.toArray⟩, u], .string ⟨nm.toArray⟩, .string ⟨v.toArray⟩] w (NmBool (EnS.hasS ⟨name, xs⟩ nm v) w) := by
  have hbx := grow1 w (.cells #[.string ⟨name.toArray⟩, u] 24)
  have hvl := refvalues_c name xs u nm _ (h.call hbx) hf hnm
  have hfv := fit_values hf name nm
  have HR : Hid (EnS.hasS ⟨name, xs⟩ nm v = EnS.withinS nm (EnS.valuesS ⟨name, xs⟩ nm) v) := Lib.hid rfl
  unfold OwnRet at hvl
  generalize EnS.hasS ⟨name, xs⟩ nm v = R at *
  generalize EnS.valuesS ⟨name, xs⟩ nm = vals at *
  have hfd := fun u2 w hE h => enwithin_c nm v u2 vals w hE hnm hv h hfv.1 hfv.2
  unfold NmBool at hfd
  generalize EnS.withinS nm vals v = I at *
  obtain ⟨a, c, rfl, _⟩ := SliceP.form h
  generalize xs.length = n at *
  go_enter Tryz.func61, Tryz.ntmps61
  go_wp2_with fail
  refine hvl.mono ?_; rintro e w1 ⟨v1, rfl, hown, hb1⟩
  have hz := below_trans hbx hb1
  go_wp2_with fail
  refine (hfd _ _ (hE.below hz) hown.strs).mono ?_; rintro e w2 ⟨rfl, hb2⟩
  go_wp2_with fail
  go_ret
  exact ⟨by rw [HR.out]; rfl, below_trans hz hb2⟩

end Go.Proofs.YtmnhgbkdahdoiaaGreatDoor
namespace Go.Proofs.YtmnhgbkdahdoiaaGreatDoor
open Go.RowKit

theorem cost_len (l : List EnS.En) : l.length ≤ EnS.sumBy EnS.cE l := EnS.sumBy_len (fun x => by unfold EnS.cE; omega) l
theorem cost_attrs (l : List EnS.At) : l.length ≤ EnS.sumBy EnS.cA l := EnS.sumBy_len (fun x => by unfold EnS.cA; omega) l
/-- what 'Small' says yes to -/
def SmallRet (xs : List EnS.En) (w : World) (e : Ending) (w' : World) : Prop := ∃ b, e = .returned (.bool b) ∧ w = w' ∧ (b = true → EnS.sumBy EnS.cE xs ≤ 3000)
theorem quo_hundred (n : Nat) : Int.tdiv (n : Int) 100 = ((n / 100 : Nat) : Int) := rfl
set_option maxRecDepth 100000 in
set_option maxHeartbeats 4000000 in
theorem small_c (v : Value) (xs : List EnS.En) (w : World) (h : EnsIn w v xs) (hN : EnS.sumBy EnS.cE xs ≤ 1048576) : Calls Tryz.prog 20 #[v] w (SmallRet xs w) := by
  obtain ⟨a, c, rfl, hc, hat⟩ := SliceP.at h
  have HAT := Lib.hid hat
  have hl := cost_len xs
  have HST := Lib.hid (fun k (h : k < xs.length) => EnS.sumBy_take (f := EnS.cE) h)
  have HSL := Lib.hid (fun k => EnS.sumBy_le (f := EnS.cE) xs k)
  clear hat h
  generalize hn : xs.length = n at hc hl ⊢
  have HN := Lib.hid hn
  clear hn
  go_enter Tryz.func20, Tryz.ntmps20
  go_wp2_with fail
  go_loop [3, 9] (fun m i => ∃ k : Nat, k ≤ n ∧ i = .int .i64 k ∧ m = .int .i64 (EnS.sumBy EnS.cE (xs.take k) : Nat) ∧ (0 < k → EnS.sumBy EnS.cE (xs.take k) ≤ 3000)) (fun _ i => n - (intOf i).toNat)
  case atStart => exact ⟨0, Nat.zero_le _, rfl, rfl, fun h => absurd h (Nat.lt_irrefl 0)⟩
  case round =>
    obtain ⟨k, hk, rfl, rfl, h3⟩ := hrel
    have hs0 := HSL.out k
    by_cases hlt : k < n
    · have hlt2 : k < xs.length := by rw [HN.out]; exact hlt
      have hs1 := HST.out k hlt2
      have hs2 := HSL.out (k + 1)
      obtain ⟨g, o, rfl, hg, _, hra⟩ := HAT.out k hlt2
      obtain ⟨c0, a1, p1, c1, hp1, hattrs⟩ := EnAt.parts hra
      have hce : EnS.cE xs[k] = 1 + xs[k].name.length / 100 + EnS.sumBy EnS.cA xs[k].attrs := rfl
      clear hra
      generalize xs[k] = x at *
      clear hlt2
      obtain ⟨name, attrs⟩ := x
      simp only at c0 c1 hp1 hattrs hce
      have hAT1 := SliceP.at hattrs
      obtain ⟨_, _, e1, _, hat1⟩ := hAT1
      cases e1
      have HAT1 := Lib.hid hat1
      have hl1 := cost_attrs attrs
      have HST1 := Lib.hid (fun k (h : k < attrs.length) => EnS.sumBy_take (f := EnS.cA) h)
      have HSL1 := Lib.hid (fun k => EnS.sumBy_le (f := EnS.cA) attrs k)
      clear hat1 hattrs
      have hq := quo_hundred name.length
      generalize hqq : name.length / 100 = q at *
      generalize hS1g : EnS.sumBy EnS.cE (xs.take (k + 1)) = S1 at *
      have HS1 := Lib.hid hS1g
      clear hS1g
      generalize EnS.sumBy EnS.cE (xs.take k) = S0 at *
      generalize EnS.sumBy EnS.cE xs = SS at *
      generalize hSA : EnS.sumBy EnS.cA attrs = SA at *
      have HSA := Lib.hid hSA
      clear hSA hqq
      rw [hce] at hs1
      clear hce
      generalize hn1 : attrs.length = n1 at c1 hp1 hl1 ⊢
      have HN1 := Lib.hid hn1
      clear hn1
      go_wp2_with fail
      go_loop [3, 28] (fun m i => ∃ j : Nat, j ≤ n1 ∧ i = .int .i64 j ∧ m = .int .i64 (S0 + 1 + q + EnS.sumBy EnS.cA (attrs.take j) : Nat)) (fun _ i => n1 - (intOf i).toNat)
      case atStart => exact ⟨0, Nat.zero_le _, rfl, by simp [EnS.sumBy]⟩
      case round =>
        obtain ⟨j, hj, rfl, rfl⟩ := hrel
        have ht0 := HSL1.out j
        by_cases hlt1 : j < n1
        · have hlt2 : j < attrs.length := by rw [HN1.out]; exact hlt1
          have ht1 := HST1.out j hlt2
          have ht2 := HSL1.out (j + 1)
          obtain ⟨g1, o1, rfl, hg1, _, hra1⟩ := HAT1.out j hlt2
          obtain ⟨d0, a2, p2, d1, hp2, hvals⟩ := AttrAt.parts hra1
          have hca : EnS.cA attrs[j] = 1 + attrs[j].vals.length + EnS.sumBy EnS.cV attrs[j].vals := rfl
          clear hra1
          generalize attrs[j] = y at *
          clear hlt2
          obtain ⟨ty, vals⟩ := y
          simp only at d0 d1 hp2 hvals hca
          obtain ⟨_, _, e2, _, hat2⟩ := SliceP.at hvals
          cases e2
          have HAT2 := Lib.hid hat2
          have HST2 := Lib.hid (fun k (h : k < vals.length) => EnS.sumBy_take (f := EnS.cV) h)
          have HSL2 := Lib.hid (fun k => EnS.sumBy_le (f := EnS.cV) vals k)
          clear hat2 hvals
          generalize hT1g : EnS.sumBy EnS.cA (attrs.take (j + 1)) = T1 at *
          have HT1 := Lib.hid hT1g
          clear hT1g
          generalize EnS.sumBy EnS.cA (attrs.take j) = T0 at *
          generalize hSV : EnS.sumBy EnS.cV vals = SV at *
          have HSV := Lib.hid hSV
          clear hSV
          rw [hca] at ht1
          clear hca
          generalize hn2 : vals.length = n2 at d1 hp2 ht1 ⊢
          have HN2 := Lib.hid hn2
          clear hn2
          go_wp2_with fail
          go_loop [3, 54] (fun m i => ∃ t : Nat, t ≤ n2 ∧ i = .int .i64 t ∧ m = .int .i64 (S0 + 1 + q + T0 + 1 + n2 + EnS.sumBy EnS.cV (vals.take t) : Nat)) (fun _ i => n2 - (intOf i).toNat)
          case atStart => exact ⟨0, Nat.zero_le _, rfl, by simp [EnS.sumBy]⟩
          case round =>
            obtain ⟨t, ht, rfl, rfl⟩ := hrel
            have hv0 := HSL2.out t
            by_cases hlt3 : t < n2
            · have hlt2 : t < vals.length := by rw [HN2.out]; exact hlt3
              have hv1 := HST2.out t hlt2
              have hv2 := HSL2.out (t + 1)
              obtain ⟨g2, o2, rfl, hg2, _, hra2⟩ := HAT2.out t hlt2
              have r0 : w.cell? ⟨g2, o2 + t, none⟩ = some (strV vals[t]) := by
                have : w.cell? ⟨g2, o2 + t * 1, none⟩ = some (strV vals[t]) := hra2
                rwa [Nat.mul_one] at this
              unfold strV at r0
              have hcv : EnS.cV vals[t] = vals[t].length / 100 := rfl
              clear hra2
              generalize vals[t] = z at *
              clear hlt2
              have hq2 := quo_hundred z.length
              rw [hcv] at hv1
              generalize z.length / 100 = q2 at *
              generalize hV1g : EnS.sumBy EnS.cV (vals.take (t + 1)) = V1 at *
              have HV1 := Lib.hid hV1g
              clear hV1g
              generalize EnS.sumBy EnS.cV (vals.take t) = V0 at *
              go_wp2_with fail
              go_round
              case rel => exact ⟨t + 1, by omega, by go_num, by rw [HV1.out]; subst hv1; go_num⟩
              case measure => simp [intOf]; omega
            · have hkn : t = n2 := by omega
              subst hkn
              have hall : vals.take t = vals := List.take_of_length_le (by rw [HN2.out]; omega)
              rw [hall, HSV.out]
              go_wp2_with fail
              go_round
              case rel => exact ⟨j + 1, by omega, by go_num, by rw [HT1.out]; subst ht1; go_num⟩
              case measure => simp [intOf]; omega
        · have hkn : j = n1 := by omega
          subst hkn
          have hall : attrs.take j = attrs := List.take_of_length_le (by rw [HN1.out]; omega)
          rw [hall, HSA.out]
          have hS1 : S0 + 1 + q + SA = S1 := by omega
          rw [hS1]
          by_cases h3000 : 3000 < S1
          · have hz : (3000 : Int) < (S1 : Int) := by omega
            go_wp2_with fail
            go_ret
            exact ⟨false, rfl, rfl, fun h => by cases h⟩
          · have hz : decide ((3000 : Int) < (S1 : Int)) = false := decide_eq_false (by omega)
            go_wp2_with fail
            go_round
            case rel => exact ⟨k + 1, by omega, by go_num, by rw [HS1.out], fun _ => by rw [HS1.out]; omega⟩
            case measure => simp [intOf]; omega
    · have hall : xs.take k = xs := List.take_of_length_le (by rw [HN.out]; omega)
      rw [hall] at h3
      have HR : Hid (EnS.sumBy EnS.cE xs ≤ 3000) := Lib.hid (by
        rcases Nat.eq_zero_or_pos k with h0 | h0
        · have : xs = [] := List.eq_nil_of_length_eq_zero (by rw [HN.out]; omega)
          rw [this]; decide
        · exact h3 h0)
      go_wp2_with fail
      go_ret
      exact ⟨true, rfl, rfl, fun _ => HR.out⟩
end Go.Proofs.YtmnhgbkdahdoiaaGreatDoor
