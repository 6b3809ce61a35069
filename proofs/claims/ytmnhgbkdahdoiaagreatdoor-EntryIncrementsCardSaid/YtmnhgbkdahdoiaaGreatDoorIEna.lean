/- The walks of an entry's values, of what is alike one of them, and of aliases: the program's. Conditions: an entry has at most 1048576 attributes of as many values each, of at most 1000000 bytes; the library's variables are laid. -/
import Derived.Test.YtmnhgbkdahdoiaaGreatDoorIDnh
import Derived.Test.YtmnhgbkdahdoiaaGreatDoorIAva
namespace Go.Proofs.YtmnhgbkdahdoiaaGreatDoor
open Go.RowKit

/-- attributes of a size that can be looked at -/
def FitA (xs : List EnS.At) : Prop := xs.length ≤ 1048576 ∧ ∀ x ∈ xs, x.vals.length ≤ 1048576 ∧ ∀ v ∈ x.vals, v.length ≤ 1000000
theorem fit_valuesL : ∀ {xs : List EnS.At} (t : List UInt8), (∀ x ∈ xs, x.vals.length ≤ 1048576 ∧ ∀ v ∈ x.vals, v.length ≤ 1000000) → (EnS.valuesL xs t).length ≤ 1048576 ∧ ∀ v ∈ EnS.valuesL xs t, v.length ≤ 1000000
  | [], _, _ => ⟨Nat.zero_le _, fun v hv => by cases hv⟩
  | a :: l, t, h => by
    unfold EnS.valuesL
    split
    · exact h a (List.mem_cons_self ..)
    · exact fit_valuesL t (fun x hx => h x (List.mem_cons_of_mem _ hx))
theorem fit_values {xs : List EnS.At} (h : FitA xs) (name nm : List UInt8) : (EnS.valuesS ⟨name, xs⟩ nm).length ≤ 1048576 ∧ ∀ v ∈ EnS.valuesS ⟨name, xs⟩ nm, v.length ≤ 1000000 := by
  unfold EnS.valuesS
  split
  · exact ⟨Nat.zero_le _, fun v hv => by cases hv⟩
  · exact fit_valuesL _ h.2
theorem valuesL_hit {xs : List EnS.At} {t : List UInt8} {k : Nat} (hk : k < xs.length) (h : xs[k].typ = t) : EnS.valuesL (xs.drop k) t = xs[k].vals := by
  rw [List.drop_eq_getElem_cons hk]; unfold EnS.valuesL; rw [if_pos h]
theorem valuesL_miss {xs : List EnS.At} {t : List UInt8} {k : Nat} (hk : k < xs.length) (h : xs[k].typ ≠ t) : EnS.valuesL (xs.drop k) t = EnS.valuesL (xs.drop (k + 1)) t := by
  rw [List.drop_eq_getElem_cons hk]; conv => lhs; unfold EnS.valuesL
  rw [if_neg h]
theorem valuesL_end {xs : List EnS.At} {t : List UInt8} {k : Nat} (hk : xs.length ≤ k) : EnS.valuesL (xs.drop k) t = [] := by rw [List.drop_eq_nil_of_le hk]; rfl
def idxI (o : Option Nat) : Int := match o with | some i => (i : Int) | none => -1
theorem idx_found {α : Type} {p : α → Bool} : ∀ {xs : List α} {k : Nat} (hk : k < xs.length), (∀ x ∈ xs.take k, p x = false) → p xs[k] = true → xs.findIdx? p = some k
  | [], k, hk, _, _ => by simp at hk
  | x :: xs, 0, _, _, hp => by rw [List.findIdx?_cons, if_pos (show p x = true from hp)]
  | x :: xs, k + 1, hk, h, hp => by
    rw [List.findIdx?_cons, if_neg (by rw [h x (by simp)]; simp), idx_found (k := k) (by simpa using hk) (fun y hy => h y (by simp [hy])) (by simpa using hp)]
    rfl
theorem idx_none {α : Type} {p : α → Bool} {xs : List α} (h : ∀ x ∈ xs, p x = false) : xs.findIdx? p = none := by
  rw [List.findIdx?_eq_none_iff]; exact h
theorem take_miss {α : Type} {p : α → Bool} {xs : List α} {k : Nat} (hk : k < xs.length) (h : ∀ x ∈ xs.take k, p x = false) (hp : p xs[k] = false) : ∀ x ∈ xs.take (k + 1), p x = false := fun x hx => by
  rw [List.take_succ_eq_append_getElem hk] at hx
  rcases List.mem_append.1 hx with hx | hx
  · exact h x hx
  · have := List.mem_singleton.1 hx; subst this; exact hp

theorem clonestr_c (v : Value) (xs : List (List UInt8)) (w : World) (h : StrsIn w v xs) (hl : xs.length ≤ 1048576) : Calls Tryz.prog 44 #[v] w (OwnRet w xs) := by
  obtain ⟨a, c, rfl, hc, hcase⟩ := h
  cases a with
  | none =>
    have h0 : xs = [] := by
      rcases hcase with h | ⟨g, o, e, _⟩
      · exact h
      · cases e
    subst h0
    refine (Tryz.slices_Clone_string_nil _ _ w).mono ?_
    rintro e w' ⟨rfl, rfl⟩
    exact ⟨_, rfl, Own.empty _ _, Below.refl _ _⟩
  | some ad =>
    rcases hcase with rfl | ⟨g, o, e, hg, hcell⟩
    · refine (Tryz.slices_Clone_string_zero ad c w).mono ?_
      rintro e w' ⟨v', rfl, ho, _, hb⟩
      exact ⟨_, rfl, ho, hb⟩
    · cases e
      refine (Tryz.slices_Clone_string g o xs.length c (xs.map fun l => ⟨l.toArray⟩) w (by simp) (by omega) (fun j hj => ?_)).mono ?_
      · have hj' : j < xs.length := by simpa using hj
        rw [hcell j _ (List.getElem?_eq_getElem hj')]
        unfold strV
        simp [List.getD, hj']
      · rintro e w' ⟨v', rfl, ho, _, hb⟩
        refine ⟨_, rfl, ?_, hb⟩
        have e2 : ((xs.map fun l => (⟨l.toArray⟩ : ByteArray)).take xs.length).map Value.string = xs.map strV := by
          rw [List.take_of_length_le (by simp), List.map_map]; rfl
        rw [e2] at ho
        exact ho

set_option maxRecDepth 100000 in
set_option maxHeartbeats 1000000 in
theorem values_c (name : List UInt8) (xs : List EnS.At) (u : Value) (nm : List UInt8) (w : World) (h : AttrsIn w u xs) (hf : FitA xs) (hnm : nm.length ≤ 1048576) :
    Calls Tryz.prog 24 #[.agg #[.string ⟨name.toArray⟩, u], .string ⟨nm.toArray⟩] w (OwnRet w (EnS.valuesS ⟨name, xs⟩ nm)) := by
  have ht : ∀ w, Calls Tryz.prog 21 #[.string ⟨nm.toArray⟩] w (TypeRet nm w) := fun w => type_c ⟨nm.toArray⟩ (by show nm.toArray.size ≤ _; simp; omega) w
  unfold TypeRet at ht
  have HV : Hid (EnS.valuesS ⟨name, xs⟩ nm = if (RuS.typeOf nm).1 = [] then [] else EnS.valuesL xs (RuS.typeOf nm).1) := Lib.hid rfl
  generalize EnS.valuesS ⟨name, xs⟩ nm = R at *
  generalize RuS.typeOf nm = TT at *
  obtain ⟨T, sy⟩ := TT
  simp only at ht HV
  obtain ⟨hl, hv⟩ := hf
  obtain ⟨a, c, rfl, hc, hat⟩ := SliceP.at h
  have HAT := Lib.hid hat
  have HFV := Lib.hid (fun k (h : k < xs.length) => (hv xs[k] (List.getElem_mem h)).1)
  have hbx := grow1 w (.cells #[.string ⟨name.toArray⟩, .slice a xs.length c] 24)
  have hwx := Whole.made w 24 #[.string ⟨name.toArray⟩, .slice a xs.length c]
  clear hat h hv
  generalize hn : xs.length = n at hc hl hbx hwx ⊢
  have HN := Lib.hid hn
  clear hn
  by_cases hT : T = []
  · have hT0 : T.isEmpty = true := by rw [hT]; rfl
    have hT1 : (T != []) = false := by rw [hT]; rfl
    have hT2 : (T == []) = true := by rw [hT]; rfl
    have HR : Hid (R = []) := Lib.hid (by rw [HV.out, if_pos hT])
    clear HV hT
    go_enter Tryz.func24, Tryz.ntmps24
    go_wp2_with fail
    refine (ht _).mono ?_; rintro e w1 ⟨rfl, hb1⟩
    have hz := below_trans hbx hb1
    have hw1 := hwx.call hb1
    have q0 := hw1.cell 0
    have q1 := hw1.cell 1
    simp only [List.getElem?_toArray, List.getElem?_cons_zero, List.getElem?_cons_succ] at q0 q1
    clear hbx hb1 hw1 hwx
    go_wp2_with fail
    go_loopw [17] (fun i wr => ∃ k : Nat, k ≤ n ∧ i = .int .i64 k ∧ Below w.heap.size w wr) (fun i _ => n - (intOf i).toNat)
    case atStart => exact ⟨0, Nat.zero_le _, rfl, hz⟩
    case round =>
      obtain ⟨k, hk, rfl, hb⟩ := hrel
      by_cases hlt : k < n
      · have hlt2 : k < xs.length := by rw [HN.out]; exact hlt
        obtain ⟨g, o, rfl, hg, _, hra⟩ := HAT.out k hlt2
        obtain ⟨c0, a2, p2, c1, hp2, hu⟩ := AttrAt.parts (AttrAt.call hra hg trivial hb)
        generalize xs[k] = x at *
        obtain ⟨ty, vals⟩ := x
        simp only at c0 c1 hp2
        clear hra hlt2 hu
        generalize vals.length = n2 at *
        have hbg := hb.alloc hb.size (.cells #[.string ⟨ty.toArray⟩, .slice a2 n2 p2] 37)
        cases hq : (ty == T) with
        | true =>
          go_wp2_with fail
          go_roundw
          case rel => exact ⟨k + 1, by omega, by go_num, hbg⟩
          case measure => simp [intOf]; omega
        | false =>
          go_wp2_with fail
          go_roundw
          case rel => exact ⟨k + 1, by omega, by go_num, hbg⟩
          case measure => simp [intOf]; omega
      · have hkn : k = n := by omega
        subst hkn
        go_wp2_with fail
        go_ret
        exact ⟨_, rfl, by rw [HR.out]; exact Own.empty _ _, hb⟩
  · have hT0 : T.isEmpty = false := by cases T <;> simp_all
    have hT1 : (T != []) = true := by cases T <;> simp_all
    have hT2 : (T == []) = false := by cases T <;> simp_all
    have HR : Hid (R = EnS.valuesL (xs.drop 0) T) := Lib.hid (by rw [HV.out, if_neg hT]; rfl)
    clear HV hT
    go_enter Tryz.func24, Tryz.ntmps24
    go_wp2_with fail
    refine (ht _).mono ?_; rintro e w1 ⟨rfl, hb1⟩
    have hz := below_trans hbx hb1
    have hw1 := hwx.call hb1
    have q0 := hw1.cell 0
    have q1 := hw1.cell 1
    simp only [List.getElem?_toArray, List.getElem?_cons_zero, List.getElem?_cons_succ] at q0 q1
    clear hbx hb1 hw1 hwx
    go_wp2_with fail
    go_loopw [17] (fun i wr => ∃ k : Nat, k ≤ n ∧ i = .int .i64 k ∧ Hid (R = EnS.valuesL (xs.drop k) T) ∧ Below w.heap.size w wr) (fun i _ => n - (intOf i).toNat)
    case atStart => exact ⟨0, Nat.zero_le _, rfl, HR, hz⟩
    case round =>
      obtain ⟨k, hk, rfl, HQ, hb⟩ := hrel
      clear HR
      by_cases hlt : k < n
      · have hlt2 : k < xs.length := by rw [HN.out]; exact hlt
        obtain ⟨g, o, rfl, hg, _, hra⟩ := HAT.out k hlt2
        obtain ⟨c0, a2, p2, c1, hp2, hu⟩ := AttrAt.parts (AttrAt.call hra hg trivial hb)
        have HHIT := Lib.hid (fun he => valuesL_hit (t := T) hlt2 he)
        have HMISS := Lib.hid (fun he => valuesL_miss (t := T) hlt2 he)
        have hvl := HFV.out k hlt2
        generalize xs[k] = x at *
        obtain ⟨ty, vals⟩ := x
        simp only at c0 c1 hp2 hu HHIT HMISS hvl
        clear hra hlt2
        have hbg := hb.alloc hb.size (.cells #[.string ⟨ty.toArray⟩, .slice a2 vals.length p2] 37)
        have hsu := hu.strs
        have hsu2 := hsu.call (grow1 wr (.cells #[.string ⟨ty.toArray⟩, .slice a2 vals.length p2] 37)) (Nat.le_refl _)
        clear hu hsu
        cases hq : (ty == T) with
        | true =>
          have HE : Hid (R = vals) := Lib.hid (by rw [HQ.out]; exact HHIT.out (beq_iff_eq.1 hq))
          have hcl := clonestr_c _ vals _ hsu2 hvl
          unfold OwnRet at hcl
          go_wp2_with fail
          refine hcl.mono ?_; rintro e w2 ⟨v2, rfl, hown, hb2⟩
          go_wp2_with fail
          go_ret
          exact ⟨_, rfl, by rw [HE.out]; exact hown.mono hbg.size, hbg.trans (hb2.mono hbg.size)⟩
        | false =>
          have HE : Hid (R = EnS.valuesL (xs.drop (k + 1)) T) := Lib.hid (by rw [HQ.out]; exact HMISS.out (by simpa using hq))
          clear hsu2
          generalize vals.length = n2 at *
          go_wp2_with fail
          go_roundw
          case rel => exact ⟨k + 1, by omega, by go_num, HE, hbg⟩
          case measure => simp [intOf]; omega
      · have HE : Hid (R = []) := Lib.hid (by rw [HQ.out]; exact valuesL_end (by rw [HN.out]; omega))
        go_wp2_with fail
        go_ret
        exact ⟨_, rfl, by rw [HE.out]; exact Own.empty _ _, hb⟩

set_option maxRecDepth 100000 in
theorem findclo_c (nm n v : List UInt8) (b1 b2 : Nat) (w : World) (hE : Env w) (h1 : w.cell? ⟨b1, 0, none⟩ = some (strV nm)) (h2 : w.cell? ⟨b2, 0, none⟩ = some (strV n)) (hn : nm.length ≤ 1048576) (hv : v.length ≤ 1000000) :
    Calls Tryz.prog 69 #[.string ⟨v.toArray⟩, .pointer (some ⟨b1, 0, none⟩), .pointer (some ⟨b2, 0, none⟩)] w (NmBool (EnS.meetS nm n v) w) := by
  have hc := dnvalue_c nm v hn hv w hE
  unfold NmTxt at hc
  have HR : Hid (EnS.meetS nm n v = (decide ((DnS.valueS nm v).2 = 0) && ((DnS.valueS nm v).1 == n))) := Lib.hid rfl
  generalize EnS.meetS nm n v = R at *
  generalize DnS.valueS nm v = V at *
  obtain ⟨m, e0⟩ := V
  simp only at hc HR
  unfold strV at h1 h2
  by_cases he : e0 = 0
  · subst he
    go_enter Tryz.func69, Tryz.ntmps69
    go_wp2_with fail
    refine hc.mono ?_; rintro e w1 ⟨rfl, hb1⟩
    have h3 := keepC h2 hb1
    go_wp2_with fail
    go_ret
    exact ⟨by rw [HR.out]; simp, hb1⟩
  · have hez : (e0 == 0) = false := by simpa using he
    go_enter Tryz.func69, Tryz.ntmps69
    go_wp2_with fail
    refine hc.mono ?_; rintro e w1 ⟨rfl, hb1⟩
    go_wp2_with fail
    go_ret
    exact ⟨by rw [HR.out, decide_eq_false he]; rfl, hb1⟩

def IdxRetI (o : Option Nat) (w : World) (e : Ending) (w' : World) : Prop := e = .returned (.int .i64 (idxI o)) ∧ Below w.heap.size w w'
set_option maxRecDepth 100000 in
theorem idxstr_c (nm n : List UInt8) (v : Value) (xs : List (List UInt8)) (b1 b2 : Nat) (w : World) (hE : Env w) (h1 : w.cell? ⟨b1, 0, none⟩ = some (strV nm)) (h2 : w.cell? ⟨b2, 0, none⟩ = some (strV n)) (hn : nm.length ≤ 1048576)
    (h : StrsIn w v xs) (hl : xs.length ≤ 1048576) (hx : ∀ x ∈ xs, x.length ≤ 1000000) :
    Calls Tryz.prog 68 #[v, .func (.func 69) #[] #[.pointer (some ⟨b1, 0, none⟩), .pointer (some ⟨b2, 0, none⟩)]] w (IdxRetI (xs.findIdx? (EnS.meetS nm n)) w) := by
  obtain ⟨a, c, rfl, hc, hat⟩ := SliceP.at (h.strsP (fun _ => True) (fun _ _ => trivial))
  have HAT := Lib.hid hat
  have HX := Lib.hid (fun k (h : k < xs.length) => hx xs[k] (List.getElem_mem h))
  have HC := fun x w hE k1 k2 hx => findclo_c nm n x b1 b2 w hE k1 k2 hn hx
  unfold NmBool at HC
  have HFND := Lib.hid (fun k (hk : k < xs.length) => idx_found (p := EnS.meetS nm n) hk)
  have HNON := Lib.hid (idx_none (p := EnS.meetS nm n) (xs := xs))
  have HTM := Lib.hid (fun k (hk : k < xs.length) => take_miss (p := EnS.meetS nm n) hk)
  generalize xs.findIdx? (EnS.meetS nm n) = R at *
  generalize EnS.meetS nm n = p at *
  clear hat hx h
  generalize hnn : xs.length = m at hc hl ⊢
  have HN := Lib.hid hnn
  clear hnn
  go_enter Tryz.func68, Tryz.ntmps68
  go_wp2_with fail
  go_loopw [8] (fun i wr => ∃ k : Nat, k ≤ m ∧ i = .int .i64 k ∧ Hid (∀ x ∈ xs.take k, p x = false) ∧ Below w.heap.size w wr) (fun i _ => m - (intOf i).toNat)
  case atStart => exact ⟨0, Nat.zero_le _, rfl, Lib.hid (fun x hx => by cases hx), Below.refl _ _⟩
  case round =>
    obtain ⟨k, hk, rfl, HA, hb⟩ := hrel
    by_cases hlt : k < m
    · have hlt2 : k < xs.length := by rw [HN.out]; exact hlt
      obtain ⟨g, o, rfl, hg, _, hra⟩ := HAT.out k hlt2
      have c0 : wr.cell? ⟨g, o + k, none⟩ = some (strV xs[k]) := by
        have : w.cell? ⟨g, o + k * 1, none⟩ = some (strV xs[k]) := hra
        rw [Nat.mul_one] at this
        exact keepC this hb
      have k1 := keepC h1 hb
      have k2 := keepC h2 hb
      have hxl := HX.out k hlt2
      have HF := Lib.hid (HFND.out k hlt2 HA.out)
      have HT := Lib.hid (HTM.out k hlt2 HA.out)
      generalize xs[k] = x at *
      unfold strV at c0
      have hcl := HC x wr (hE.below hb) k1 k2 hxl
      clear hra hlt2 HFND HNON HTM
      cases hq : p x with
      | true =>
        have HR := Lib.hid (HF.out hq)
        rw [hq] at hcl
        clear hq HF HT
        go_wp2_with fail
        refine hcl.mono ?_; rintro e w1 ⟨rfl, hb1⟩
        go_wp2_with fail
        go_ret
        exact ⟨by rw [HR.out]; rfl, hb.trans (hb1.mono hb.size)⟩
      | false =>
        have HR := Lib.hid (HT.out hq)
        rw [hq] at hcl
        clear hq HF HT
        go_wp2_with fail
        refine hcl.mono ?_; rintro e w1 ⟨rfl, hb1⟩
        go_wp2_with fail
        go_roundw
        case rel => exact ⟨k + 1, by omega, by go_num, HR, hb.trans (hb1.mono hb.size)⟩
        case measure => simp [intOf]; omega
    · have HALL : Hid (R = none) := Lib.hid (HNON.out (by have := HA.out; rwa [List.take_of_length_le (by rw [HN.out]; omega)] at this))
      go_wp2_with fail
      go_ret
      exact ⟨by rw [HALL.out]; rfl, hb⟩

set_option maxRecDepth 100000 in
theorem find_c (nm v : List UInt8) (u : Value) (xs : List (List UInt8)) (w : World) (hE : Env w) (hn : nm.length ≤ 1048576) (hv : v.length ≤ 1000000) (h : StrsIn w u xs) (hl : xs.length ≤ 1048576) (hx : ∀ x ∈ xs, x.length ≤ 1000000) :
    Calls Tryz.prog 38 #[.string ⟨nm.toArray⟩, u, .string ⟨v.toArray⟩] w (IdxRetI (EnS.findI nm xs v) w) := by
  have hmf : ∀ (fn : Fn) (first cap : Array Value) (w : World), (Instr.makeFunc fn first cap).run Tryz.prog w = .ok (.func fn first cap) w := fun _ _ _ _ => rfl
  have hb0 := grow1 w (.cells #[.string ⟨nm.toArray⟩] 9)
  have hw0 := Whole.made w 9 #[.string ⟨nm.toArray⟩]
  have hc := dnvalue_c nm v hn hv _ (hE.below hb0)
  unfold NmTxt at hc
  have HR : Hid (EnS.findI nm xs v = if (DnS.valueS nm v).2 = 0 then xs.findIdx? (EnS.meetS nm (DnS.valueS nm v).1) else none) := Lib.hid rfl
  generalize EnS.findI nm xs v = R at *
  generalize DnS.valueS nm v = V at *
  obtain ⟨n, e0⟩ := V
  simp only at hc HR
  have hi := fun w b1 b2 hE h1 h2 h => idxstr_c nm n u xs b1 b2 w hE h1 h2 hn h hl hx
  unfold IdxRetI at hi
  obtain ⟨a, c, rfl⟩ := h.form
  generalize hm : xs.length = m at hl h hi ⊢
  by_cases he : e0 = 0
  · subst he
    rw [if_pos rfl] at HR
    generalize xs.findIdx? (EnS.meetS nm n) = I at *
    go_enter Tryz.func38, Tryz.ntmps38
    go_wp2_with fail
    refine hc.mono ?_; rintro e w1 ⟨rfl, hb1⟩
    have hz := below_trans hb0 hb1
    have k0 := hw0.call hb1
    have hg1 := grow1 w1 (.cells #[.string ⟨n.toArray⟩] 9)
    have hw1 := Whole.made w1 9 #[.string ⟨n.toArray⟩]
    have k1 := k0.call hg1
    have hE1 := (hE.below hz).below hg1
    have hh1 := (h.call hz (Nat.le_refl _)).call hg1 (Nat.le_refl _)
    have hii := hi _ w.heap.size w1.heap.size hE1 (k1.cell 0) (hw1.cell 0) hh1
    have hzz := below_trans hz hg1
    clear hi hg1 k0 hb1 hE1 hh1 k1 hw1 hz
    go_wp2_with fail
    refine hii.mono ?_; rintro e w2 ⟨rfl, hb2⟩
    go_wp2_with fail
    go_ret
    exact ⟨by rw [HR.out]; rfl, below_trans hzz hb2⟩
  · have hez : (e0 != 0) = true := by simpa using he
    rw [if_neg he] at HR
    clear hi
    go_enter Tryz.func38, Tryz.ntmps38
    go_wp2_with fail
    refine hc.mono ?_; rintro e w1 ⟨rfl, hb1⟩
    go_wp2_with fail
    go_ret
    exact ⟨by rw [HR.out]; rfl, below_trans (below_trans hb0 hb1) (grow1 w1 _)⟩

theorem idx_has (o : Option Nat) : decide (0 ≤ idxI o) = o.isSome := by
  cases o with
  | none => rfl
  | some i => simp [idxI]
set_option maxRecDepth 100000 in
theorem has_c (name : List UInt8) (xs : List EnS.At) (u : Value) (nm v : List UInt8) (w : World) (hE : Env w) (h : AttrsIn w u xs) (hf : FitA xs) (hnm : nm.length ≤ 1048576) (hv : v.length ≤ 1000000) :
    Calls Tryz.prog 17 #[.agg #[.string ⟨name.toArray⟩, u], .string ⟨nm.toArray⟩, .string ⟨v.toArray⟩] w (NmBool (EnS.hasS ⟨name, xs⟩ nm v) w) := by
  have hbx := grow1 w (.cells #[.string ⟨name.toArray⟩, u] 24)
  have hvl := values_c name xs u nm _ (h.call hbx) hf hnm
  have hfv := fit_values hf name nm
  have HR : Hid (EnS.hasS ⟨name, xs⟩ nm v = (EnS.findI nm (EnS.valuesS ⟨name, xs⟩ nm) v).isSome) := Lib.hid (by rw [EnS.find_within]; rfl)
  unfold OwnRet at hvl
  generalize EnS.hasS ⟨name, xs⟩ nm v = R at *
  generalize EnS.valuesS ⟨name, xs⟩ nm = vals at *
  have hfd := fun u2 w hE h => find_c nm v u2 vals w hE hnm hv h hfv.1 hfv.2
  unfold IdxRetI at hfd
  generalize EnS.findI nm vals v = I at *
  have HI := Lib.hid (idx_has I)
  generalize idxI I = z at *
  obtain ⟨a, c, rfl, _⟩ := SliceP.form h
  generalize xs.length = n at *
  go_enter Tryz.func17, Tryz.ntmps17
  go_wp2_with fail
  refine hvl.mono ?_; rintro e w1 ⟨v1, rfl, hown, hb1⟩
  have hz := below_trans hbx hb1
  go_wp2_with fail
  refine (hfd _ _ (hE.below hz) hown.strs).mono ?_; rintro e w2 ⟨rfl, hb2⟩
  go_wp2_with fail
  go_ret
  exact ⟨by rw [HR.out, ← HI.out]; rfl, below_trans hz hb2⟩

end Go.Proofs.YtmnhgbkdahdoiaaGreatDoor
