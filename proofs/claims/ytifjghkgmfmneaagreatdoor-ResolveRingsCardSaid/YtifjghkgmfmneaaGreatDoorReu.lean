/- The walks of a trail of names, of 'In' and 'At', and of finding a name, the program's. Conditions: those that each theorem states; the library's variables are laid. The walks of finding a name, the program's and the document's, and of 'At'. Conditions: at most 1048576 entries, each of at most as many attributes and values, names and values of at most 1000000 bytes; the library's variables are laid. -/
import Derived.Test.YtifjghkgmfmneaaGreatDoorRes
import Derived.OneCell
import Derived.Lib.SlicesS
namespace Go.Proofs.YtifjghkgmfmneaaGreatDoor
open Go.RowKit

theorem ofArr_inj {a b : List UInt8} (h : (⟨a.toArray⟩ : ByteArray) = ⟨b.toArray⟩) : a = b := by
  have := congrArg (fun x : ByteArray => x.data.toList) h
  simpa using this
theorem contains_map (xs : List (List UInt8)) (l : List UInt8) : Lib.containsS (xs.map fun l => (⟨l.toArray⟩ : ByteArray)) ⟨l.toArray⟩ = xs.contains l := by
  rw [Bool.eq_iff_iff, Lib.containsS_iff, List.contains_iff_mem, List.mem_map]
  constructor
  · rintro ⟨x, hx, he⟩
    rw [← ofArr_inj he]
    exact hx
  · intro h
    exact ⟨l, h, rfl⟩
theorem contains_c (v : Value) (xs : List (List UInt8)) (l : List UInt8) (w : World) (h : StrsIn w v xs) (hl : xs.length ≤ 1048576) : Calls Tryz.prog 162 #[v, .string ⟨l.toArray⟩] w fun e w' => e = .returned (.bool (xs.contains l)) ∧ w' = w := by
  obtain ⟨a, c, rfl, hc, hcase⟩ := h
  rcases hcase with rfl | ⟨g, o, rfl, hg, hcell⟩
  · exact Tryz.slices_Contains_string_empty a c ⟨l.toArray⟩ w
  · refine (Tryz.slices_Contains_string g o xs.length c (xs.map fun l => ⟨l.toArray⟩) ⟨l.toArray⟩ w (by simp) (by omega) (fun j hj => ?_)).mono ?_
    · have hj' : j < xs.length := by simpa using hj
      rw [hcell j _ (List.getElem?_eq_getElem hj')]
      unfold strV
      simp [List.getD, hj']
    · rintro e w' ⟨rfl, rfl⟩
      rw [List.take_of_length_le (by simp), contains_map]
      exact ⟨rfl, rfl⟩
/-- one text more; only the row's own block turns -/
theorem push_str_g {w : World} {ops : Array Oper} {rest : List Oper} {o : Oper} {a : Act} {Q : Exit → Act → World → Prop} (hgd : o.guard = none) (s x : Operand)
    (ho : o.op = .call { callee := .builtin .append, args := #[s, x], argTypes := #[45, 45] })
    (B : Nat) (v : Value) (xs : List (List UInt8)) (hs : a.eval s = v) (hown : Own w B v xs) (g : Nat) (hx : a.eval x = .slice (some ⟨g, 0, Option.none⟩) 1 1)
    (y : List UInt8) (hc : w.cell? ⟨g, 0, Option.none⟩ = some (strV y)) (hn : xs.length ≤ 1000000000) (hB : B ≤ w.heap.size)
    (h : ∀ v' w', Own w' B v' (xs ++ [y]) → Below B w w' → w.grownBy w' v.ownBlock → wpList Tryz.prog ops Q rest (a.put o.dst v') w') : wpList Tryz.prog ops Q (o :: rest) a w := by
  obtain ⟨i0, hi, hz0, hz1, hz2⟩ := info_parts infoStr
  refine wpList_append_own w hgd s x _ ho B 9 i0 (.string ⟨#[]⟩) 1 16 Tryz.underlying45 hi hz0 hz1 hz2 rfl (by decide) v xs.length (xs.map strV) hs hown ⟨g, 0, Option.none⟩ 1 1 [strV y] hx rfl
    (fun j u hj => ?_) (fun u hu => ?_) (by unfold maxLen; omega) (by omega) hB (fun v' w' h1 h2 _ => h v' w' ?_ ?_ h2)
  · have hj0 : j = 0 := by
      rcases Nat.eq_zero_or_pos j with h | h
      · exact h
      · rw [List.getElem?_eq_none (by simp; omega)] at hj; cases hj
    subst hj0
    have hadd : (⟨g, 0, Option.none⟩ : Addr).add 0 = ⟨g, 0, Option.none⟩ := by unfold Addr.add; split <;> simp_all
    rw [hadd, hc]
    simpa using hj
  · rw [List.mem_singleton] at hu; subst hu; rfl
  · unfold Own
    rw [List.map_append, List.length_append]
    exact h1
  · exact (Below.refl B w).grown h2 hB (fun k hk => (World.ownsRow.lt hown k hk).1)

/-- block b holds a trail: the names gone through -/
def TrailAt (w : World) (B b : Nat) (seen : List (List UInt8)) : Prop := ∃ v, Whole w b 190 #[v] ∧ Own w B v seen ∧ B ≤ b
theorem Own.apart {w : World} {B : Nat} {v : Value} {xs : List (List UInt8)} (h : Own w B v xs) {b : Nat} {T : TypeId} {cs : Array Value} (hb : Whole w b T cs) (hT : T ≠ 9) : v.ownBlock ≠ some b := fun e => by
  rcases h.2 with ⟨rfl, _⟩ | ⟨g, cap, cur, rfl, _, hh, _⟩
  · cases e
  · have : g = b := by simpa [Value.ownBlock] using e
    subst this
    unfold Whole at hb
    rw [hh] at hb
    simp only [Option.some.injEq, Obj.cells.injEq] at hb
    exact hT hb.2.1.symm
theorem TrailAt.call {w w' : World} {B b : Nat} {seen : List (List UInt8)} (h : TrailAt w B b seen) (hb : Below w.heap.size w w') : TrailAt w' B b seen := by
  obtain ⟨v, h1, h2, h3⟩ := h
  exact ⟨v, h1.call hb, h2.call hb, h3⟩
def BeginRet (l : List UInt8) (w : World) (e : Ending) (w' : World) : Prop := ∃ b, e = .returned (.pointer (some ⟨b, 0, none⟩)) ∧ TrailAt w' w.heap.size b [l] ∧ Below w.heap.size w w'
set_option maxRecDepth 100000 in
theorem begin_c (l : List UInt8) (w : World) : Calls Tryz.prog 97 #[.string ⟨l.toArray⟩] w (BeginRet l w) := by
  have hg1 := grow1 w (.cells #[.string ⟨l.toArray⟩] 9)
  have hg2 := grow1 (w.alloc (.cells #[.string ⟨l.toArray⟩] 9)) (.cells #[.slice (some ⟨w.heap.size, 0, none⟩) 1 1] 190)
  have hw2 := Whole.made (w.alloc (.cells #[.string ⟨l.toArray⟩] 9)) 190 #[.slice (some ⟨w.heap.size, 0, none⟩) 1 1]
  have ho : Own (w.alloc (.cells #[.string ⟨l.toArray⟩] 9)) w.heap.size (.slice (some ⟨w.heap.size, 0, none⟩) 1 1) [l] := by
    refine ⟨rfl, .inr ⟨w.heap.size, 1, #[.string ⟨l.toArray⟩], rfl, Nat.le_refl _, heap_alloc_new w _, Nat.le_refl _, by unfold maxLen; omega, rfl, rfl⟩⟩
  have hsz : (w.alloc (.cells #[.string ⟨l.toArray⟩] 9)).heap.size = w.heap.size + 1 := by show (w.heap.push _).size = _; simp
  rw [hsz] at hw2
  go_enter Tryz.func97, Tryz.ntmps97
  go_wp2_with fail
  go_ret
  exact ⟨_, rfl, ⟨_, hw2, ho.call hg2, Nat.le_succ _⟩, below_trans hg1 hg2⟩
def MovedRet (seen : List (List UInt8)) (w : World) (e : Ending) (w' : World) : Prop := e = .returned (.bool (decide (1 < seen.length))) ∧ w = w'
set_option maxRecDepth 100000 in
theorem moved_c (b B : Nat) (seen : List (List UInt8)) (w : World) (h : TrailAt w B b seen) : Calls Tryz.prog 102 #[.pointer (some ⟨b, 0, none⟩)] w (MovedRet seen w) := by
  obtain ⟨v, h1, h2, h3⟩ := h
  obtain ⟨a, c, rfl⟩ := h2.form
  have q0 := h1.cell 0
  simp only [List.getElem?_toArray, List.getElem?_cons_zero] at q0
  have hd : decide ((1 : Int) < (seen.length : Int)) = decide (1 < seen.length) := by
    by_cases h : 1 < seen.length
    · rw [decide_eq_true h, decide_eq_true (by omega)]
    · rw [decide_eq_false h, decide_eq_false (by omega)]
  have HD := Lib.hid hd
  clear h1 h2 hd
  unfold MovedRet
  generalize seen.length = n at *
  go_enter Tryz.func102, Tryz.ntmps102
  go_wp2_with fail
  go_ret
  exact ⟨by rw [← HD.out]; rfl, rfl⟩
def lostI (seen : List (List UInt8)) : Int := if 1 < seen.length then 33 else 32
theorem lost_yes {seen : List (List UInt8)} (h : 1 < seen.length) : lostI seen = 33 := if_pos h
theorem lost_no {seen : List (List UInt8)} (h : ¬ 1 < seen.length) : lostI seen = 32 := if_neg h
def LostRet (seen : List (List UInt8)) (w : World) (e : Ending) (w' : World) : Prop := e = .returned (.int .i64 (lostI seen)) ∧ w = w'
set_option maxRecDepth 100000 in
theorem lost_c (b B : Nat) (seen : List (List UInt8)) (w : World) (h : TrailAt w B b seen) : Calls Tryz.prog 101 #[.pointer (some ⟨b, 0, none⟩)] w (LostRet seen w) := by
  have hm := moved_c b B seen w h
  unfold MovedRet at hm
  by_cases hs : 1 < seen.length
  · rw [decide_eq_true hs] at hm
    have HR : Hid (lostI seen = 33) := Lib.hid (lost_yes hs)
    go_enter Tryz.func101, Tryz.ntmps101
    go_wp2_with fail
    refine hm.mono ?_; rintro e w1 ⟨rfl, rfl⟩
    go_wp2_with fail
    go_ret
    exact ⟨by rw [HR.out]; rfl, rfl⟩
  · rw [decide_eq_false hs] at hm
    have HR : Hid (lostI seen = 32) := Lib.hid (lost_no hs)
    go_enter Tryz.func101, Tryz.ntmps101
    go_wp2_with fail
    refine hm.mono ?_; rintro e w1 ⟨rfl, rfl⟩
    go_wp2_with fail
    go_ret
    exact ⟨by rw [HR.out]; rfl, rfl⟩
def GoRet (b B : Nat) (seen : List (List UInt8)) (l : List UInt8) (w : World) (e : Ending) (w' : World) : Prop :=
  (seen.contains l = true ∨ 16 < seen.length) ∧ e = .returned (.bool false) ∧ w = w' ∨
  (¬ (seen.contains l = true ∨ 16 < seen.length)) ∧ e = .returned (.bool true) ∧ TrailAt w' B b (seen ++ [l]) ∧ Below B w w'
set_option maxRecDepth 100000 in
set_option maxHeartbeats 1000000 in
theorem trailgo_c (b B : Nat) (seen : List (List UInt8)) (l : List UInt8) (w : World) (h : TrailAt w B b seen) (hl : seen.length ≤ 1000) : Calls Tryz.prog 99 #[.pointer (some ⟨b, 0, none⟩), .string ⟨l.toArray⟩] w (GoRet b B seen l w) := by
  obtain ⟨v, h1, h2, h3⟩ := h
  have hcn := contains_c v seen l w h2.strs (by omega)
  have hap := h2.apart h1 (by decide)
  have hform := h2.form
  obtain ⟨a, c, hvv⟩ := hform
  unfold GoRet
  have q0 := h1.cell 0
  have q1 := h1.thaw 0
  simp only [List.getElem?_toArray, List.getElem?_cons_zero] at q0
  subst hvv
  cases hcb : seen.contains l with
  | true =>
    rw [hcb] at hcn
    clear hcb h1 h2 hap
    generalize seen.length = n at *
    go_enter Tryz.func99, Tryz.ntmps99
    go_wp2_with fail
    refine hcn.mono ?_; rintro e w1 ⟨rfl, rfl⟩
    go_wp2_with fail
    go_ret
    exact .inl ⟨.inl (by trivial), rfl, rfl⟩
  | false =>
    rw [hcb] at hcn
    by_cases h16 : 16 < seen.length
    · have HR : Hid (16 < seen.length) := Lib.hid h16
      have hz : (16 : Int) < (seen.length : Int) := by omega
      clear hcb h1 h2 hap
      generalize seen.length = n at *
      go_enter Tryz.func99, Tryz.ntmps99
      go_wp2_with fail
      refine hcn.mono ?_; rintro e w1 ⟨rfl, rfl⟩
      go_wp2_with fail
      go_ret
      exact .inl ⟨.inr HR.out, rfl, rfl⟩
    · have HR : Hid (¬ 16 < seen.length) := Lib.hid h16
      have hz : decide ((16 : Int) < (seen.length : Int)) = false := decide_eq_false (by omega)
      have hblt := h1.lt
      have hBs : B ≤ w.heap.size := Nat.le_trans h3 (Nat.le_of_lt hblt)
      have hg1 := grow1 w (.cells #[.string ⟨l.toArray⟩] 9)
      have HW := Lib.hid (h1.call hg1)
      have HO := Lib.hid (h2.call hg1)
      have HA := Lib.hid hap
      have HL := Lib.hid hblt
      have HB0 := Lib.hid ((Below.refl B w).alloc hBs (.cells #[.string ⟨l.toArray⟩] 9))
      clear hcb h1 h2 hap hg1
      generalize hnn : seen.length = n at *
      go_enter Tryz.func99, Tryz.ntmps99
      go_wp2_with fail
      refine hcn.mono ?_; rintro e w1 ⟨rfl, rfl⟩
      go_wp2_with (at_builtin; refine push_str_g (by rfl) _ _ (by rfl) B _ seen (by rfl) HO.out w1.heap.size (by rfl) l ?e1 ?e2 ?e3 ?_)
      case e1 => simp [go_sem, strV]
      case e2 => omega
      case e3 => exact Nat.le_trans hBs (HB0.out.size)
      intro v' w2 hown2 hb2 hgr
      obtain ⟨va, vc, hvf⟩ := hown2.form
      rw [List.length_append, List.length_singleton, hnn] at hvf
      subst hvf
      have hw2 : Whole w2 b 190 #[.slice a n c] := (hgr.block b (Nat.lt_of_lt_of_le HL.out (grow1 w1 _).size) (fun e => HA.out e.symm)).trans HW.out
      have q2 := hw2.cell 0
      have q3 := hw2.thaw 0
      simp only [List.getElem?_toArray, List.getElem?_cons_zero] at q2
      have hap2 := hown2.apart hw2 (by decide)
      have hput := hw2.put 0 (.slice va (n + 1) vc)
      have hown3 := ownsRow_setCell_other hown2 (a := ⟨b, 0, none⟩) hap2 (.slice va (n + 1) vc)
      have hbl := (HB0.out.trans hb2).setCell (p := ⟨b, 0, none⟩) h3 (.slice va (n + 1) vc)
      clear hcn HO HW
      go_wp2_with fail
      go_ret
      exact .inr ⟨fun h => h.elim (fun h => by cases h) HR.out, rfl, ⟨_, hput, hown3, h3⟩, hbl⟩

/-! is a name in a list? -/
set_option maxRecDepth 100000 in
theorem inclo_c (name n : List UInt8) (u : Value) (b1 : Nat) (w : World) (h1 : w.cell? ⟨b1, 0, none⟩ = some (.string ⟨n.toArray⟩)) :
    Calls Tryz.prog 164 #[.agg #[.string ⟨name.toArray⟩, u], .pointer (some ⟨b1, 0, none⟩)] w (NmBool (name == n) w) := by
  have hg1 := grow1 w (.cells #[.string ⟨name.toArray⟩, u] 37)
  have h2 := keepC h1 hg1
  go_enter Tryz.func164, Tryz.ntmps164
  go_wp2_with fail
  go_ret
  exact ⟨rfl, hg1⟩
def isNm (n : List UInt8) (e : EnS.En) : Bool := e.name == n
set_option maxRecDepth 100000 in
theorem idxen_c (n : List UInt8) (v : Value) (xs : List EnS.En) (b1 : Nat) (w : World) (h1 : w.cell? ⟨b1, 0, none⟩ = some (.string ⟨n.toArray⟩)) (h : EnsIn w v xs) (hl : xs.length ≤ 1048576) :
    Calls Tryz.prog 208 #[v, .func (.func 164) #[] #[.pointer (some ⟨b1, 0, none⟩)]] w (IdxRetI (xs.findIdx? (isNm n)) w) := by
  obtain ⟨a, c, rfl, hc, hat⟩ := SliceP.at h
  have HAT := Lib.hid hat
  have HFND := Lib.hid (fun k (hk : k < xs.length) => idx_found (p := isNm n) hk)
  have HNON := Lib.hid (idx_none (p := isNm n) (xs := xs))
  have HTM := Lib.hid (fun k (hk : k < xs.length) => take_miss (p := isNm n) hk)
  have HP : Hid (∀ e : EnS.En, isNm n e = (e.name == n)) := Lib.hid (fun _ => rfl)
  generalize xs.findIdx? (isNm n) = R at *
  generalize isNm n = p at *
  clear hat h
  generalize hnn : xs.length = m at hc hl ⊢
  have HN := Lib.hid hnn
  clear hnn
  go_enter Tryz.func208, Tryz.ntmps208
  go_wp2_with fail
  go_loopw [8] (fun i wr => ∃ k : Nat, k ≤ m ∧ i = .int .i64 k ∧ Hid (∀ x ∈ xs.take k, p x = false) ∧ Below w.heap.size w wr) (fun i _ => m - (intOf i).toNat)
  case atStart => exact ⟨0, Nat.zero_le _, rfl, Lib.hid (fun x hx => by cases hx), Below.refl _ _⟩
  case round =>
    obtain ⟨k, hk, rfl, HA, hb⟩ := hrel
    by_cases hlt : k < m
    · have hlt2 : k < xs.length := by rw [HN.out]; exact hlt
      obtain ⟨g, o, rfl, hg, _, hra⟩ := HAT.out k hlt2
      obtain ⟨c0, a1, p1, c1, hp1, hattrs⟩ := EnAt.parts (EnAt.call hra hg trivial hb)
      have k1 := keepC h1 hb
      have HF := Lib.hid (HFND.out k hlt2 HA.out)
      have HT := Lib.hid (HTM.out k hlt2 HA.out)
      have HPX := Lib.hid (HP.out xs[k])
      generalize xs[k] = x at *
      obtain ⟨name, attrs⟩ := x
      simp only at c0 c1 HPX
      have hcl := inclo_c name n (.slice a1 attrs.length p1) b1 wr k1
      unfold NmBool at hcl
      clear hra hlt2 HFND HNON HTM hattrs HP
      generalize attrs.length = n1 at *
      cases hq : (name == n) with
      | true =>
        have HR := Lib.hid (HF.out (HPX.out.trans hq))
        rw [hq] at hcl
        clear hq HF HT
        go_wp2_with fail
        refine hcl.mono ?_; rintro e w1 ⟨rfl, hb1⟩
        go_wp2_with fail
        go_ret
        exact ⟨by rw [HR.out]; rfl, hb.trans (hb1.mono hb.size)⟩
      | false =>
        have HR := Lib.hid (HT.out (HPX.out.trans hq))
        rw [hq] at hcl
        clear hq HF HT
        go_wp2_with fail
        refine hcl.mono ?_; rintro e w1 ⟨rfl, hb1⟩
        go_wp2_with fail
        go_roundw
        case rel => exact ⟨k + 1, by omega, by go_num, HR, hb.trans (hb1.mono hb.size)⟩
        case measure => simp [intOf]; omega
    · have HALL : Hid (R = none) := Lib.hid (HNON.out (by have := HA.out; rwa [List.take_of_length_le (by rw [HN.out]; omega)] at this))
      go_wp2_with fail
      go_ret
      exact ⟨by rw [HALL.out]; rfl, hb⟩
set_option maxRecDepth 100000 in
theorem conen_c (n : List UInt8) (v : Value) (xs : List EnS.En) (b1 : Nat) (w : World) (h1 : w.cell? ⟨b1, 0, none⟩ = some (.string ⟨n.toArray⟩)) (h : EnsIn w v xs) (hl : xs.length ≤ 1048576) :
    Calls Tryz.prog 163 #[v, .func (.func 164) #[] #[.pointer (some ⟨b1, 0, none⟩)]] w (NmBool (EnS.inS xs n) w) := by
  have hi := idxen_c n v xs b1 w h1 h hl
  have HR : Hid (EnS.inS xs n = (xs.findIdx? (isNm n)).isSome) := Lib.hid (by rw [List.findIdx?_isSome]; rfl)
  unfold IdxRetI at hi
  generalize EnS.inS xs n = R at *
  generalize xs.findIdx? (isNm n) = I at *
  have HI := Lib.hid (idx_has I)
  generalize idxI I = z at *
  obtain ⟨a, c, rfl, _⟩ := SliceP.form h
  generalize xs.length = m at *
  go_enter Tryz.func163, Tryz.ntmps163
  go_wp2_with fail
  refine hi.mono ?_; rintro e w1 ⟨rfl, hb1⟩
  go_wp2_with fail
  go_ret
  exact ⟨by rw [HR.out, ← HI.out]; rfl, hb1⟩
set_option maxRecDepth 100000 in
theorem in_c (n : List UInt8) (v : Value) (xs : List EnS.En) (w : World) (h : EnsIn w v xs) (hl : xs.length ≤ 1048576) :
    Calls Tryz.prog 100 #[v, .string ⟨n.toArray⟩] w (NmBool (EnS.inS xs n) w) := by
  have hmf : ∀ (fn : Fn) (first cap : Array Value) (w : World), (Instr.makeFunc fn first cap).run Tryz.prog w = .ok (.func fn first cap) w := fun _ _ _ _ => rfl
  have hb0 := grow1 w (.cells #[.string ⟨n.toArray⟩] 9)
  have hw0 := Whole.made w 9 #[.string ⟨n.toArray⟩]
  have hc := conen_c n v xs w.heap.size _ (hw0.cell 0) (h.call hb0) hl
  unfold NmBool at hc
  obtain ⟨a, c, rfl, _⟩ := SliceP.form h
  generalize xs.length = m at *
  go_enter Tryz.func100, Tryz.ntmps100
  go_wp2_with fail
  refine hc.mono ?_; rintro e w1 ⟨rfl, hb1⟩
  go_wp2_with fail
  go_ret
  exact ⟨rfl, below_trans hb0 hb1⟩
end Go.Proofs.YtifjghkgmfmneaaGreatDoor
namespace Go.Proofs.YtifjghkgmfmneaaGreatDoor
open Go.RowKit

namespace EnS
theorem trail_code {l : List En} {k : Nat} {seen : List (List UInt8)} {n tn : List UInt8} {more : Bool} {code : Int} (h : stepS l n = (tn, more, code)) (hc : code ≠ 0) : trailS l (k + 1) seen n = ([], [], code) := by
  unfold trailS; rw [h]; exact if_neg hc
theorem trail_stop {l : List En} {k : Nat} {seen : List (List UInt8)} {n tn : List UInt8} (h : stepS l n = (tn, false, 0)) : trailS l (k + 1) seen n = (seen, n, 0) := by
  unfold trailS; rw [h, if_pos rfl]; exact if_neg (by simp)
theorem trail_no {l : List En} {k : Nat} {seen : List (List UInt8)} {n tn : List UInt8} (h : stepS l n = (tn, true, 0)) (hx : seen.contains tn = true ∨ 16 < seen.length) : trailS l (k + 1) seen n = ([], [], 36) := by
  unfold trailS; rw [h, if_pos rfl, if_pos rfl]; exact if_pos hx
theorem trail_on {l : List En} {k : Nat} {seen : List (List UInt8)} {n tn : List UInt8} (h : stepS l n = (tn, true, 0)) (hx : ¬ (seen.contains tn = true ∨ 16 < seen.length)) : trailS l (k + 1) seen n = trailS l k (seen ++ [tn]) tn := by
  conv => lhs; unfold trailS
  rw [h, if_pos rfl, if_pos rfl]; exact if_neg hx
theorem goal_bad (l : List En) {code : Int} (hc : code ≠ 0) : goalS l ([], [], code) = ([], false, code) := by unfold goalS; exact if_neg hc
theorem goal_good (l : List En) (seen : List (List UInt8)) (n : List UInt8) : goalS l (seen, n, 0) = endS l seen n := by unfold goalS; exact if_pos rfl
theorem end_empty {l : List En} {seen : List (List UInt8)} {n : List UInt8} (h : n = []) : endS l seen n = (n, decide (1 < seen.length), 0) := by unfold endS; exact if_neg (fun k => k.1 h)
theorem end_in {l : List En} {seen : List (List UInt8)} {n : List UInt8} (h : inS l n = true) : endS l seen n = (n, decide (1 < seen.length), 0) := by unfold endS; exact if_neg (fun k => by rw [h] at k; cases k.2)
theorem end_out {l : List En} {seen : List (List UInt8)} {n : List UInt8} (h0 : n ≠ []) (h : inS l n = false) : endS l seen n = ([], false, lostI seen) := by unfold endS; exact if_pos ⟨h0, h⟩
theorem step_small {l : List En} {s tn : List UInt8} {more : Bool} (h : stepS l s = (tn, more, 0)) : tn.length ≤ 1000 ∧ DnS.normN tn = (tn, 0) := by
  have := step_normal h
  have h2 := DnS.norm_len tn
  rw [this] at h2
  exact ⟨h2, this⟩
theorem find_bad {l : List En} {s n : List UInt8} {e : Int} {f : Bool} (h : DnS.normN s = (n, e)) (he : e ≠ 0) : findS l s f = ([], false, 34) := by unfold findS; rw [h]; exact if_neg he
theorem find_off {l : List En} {s n : List UInt8} (h : DnS.normN s = (n, 0)) : findS l s false = endS l [n] n := by unfold findS; rw [h, if_pos rfl]; exact if_neg (by simp)
theorem find_on {l : List En} {s n : List UInt8} (h : DnS.normN s = (n, 0)) : findS l s true = goalS l (trailS l 17 [n] n) := by unfold findS; rw [h, if_pos rfl]; exact if_pos rfl
end EnS
theorem dec_len (k : Nat) : decide ((1 : Int) < (k : Int)) = decide (1 < k) := by
  by_cases h : 1 < k
  · rw [decide_eq_true h, decide_eq_true (by omega)]
  · rw [decide_eq_false h, decide_eq_false (by omega)]
def lenAt (w : World) (b : Nat) : Nat := match w.cell? ⟨b, 0, none⟩ with | some (.slice _ n _) => n | _ => 0
def lenOfV (v : Value) : Nat := match v with | .slice _ n _ => n | _ => 0
theorem Own.lenOf {w : World} {B : Nat} {v : Value} {xs : List (List UInt8)} (h : Own w B v xs) : lenOfV v = xs.length := by
  obtain ⟨a, c, rfl⟩ := h.form
  rfl
theorem TrailAt.len {w : World} {B b : Nat} {seen : List (List UInt8)} (h : TrailAt w B b seen) : lenAt w b = seen.length := by
  obtain ⟨v, h1, h2, _⟩ := h
  have q := h1.cell 0
  simp only [List.getElem?_toArray, List.getElem?_cons_zero] at q
  unfold lenAt
  rw [q]
  obtain ⟨a, c, rfl⟩ := h2.form
  rfl
theorem Own.one (w : World) (l : List UInt8) : Own (w.alloc (.cells #[.string ⟨l.toArray⟩] 9)) w.heap.size (.slice (some ⟨w.heap.size, 0, none⟩) 1 1) [l] :=
  ⟨rfl, .inr ⟨w.heap.size, 1, #[.string ⟨l.toArray⟩], rfl, Nat.le_refl _, heap_alloc_new w _, Nat.le_refl _, by unfold maxLen; omega, rfl, rfl⟩⟩
/-- where a name is -/
def atI (xs : List EnS.En) (s : List UInt8) : Option Nat := if (DnS.normN s).2 = 0 then xs.findIdx? (isNm (DnS.normN s).1) else none
theorem at_in {xs : List EnS.En} {n : List UInt8} (h : DnS.normN n = (n, 0)) : (atI xs n).isSome = EnS.inS xs n := by
  unfold atI
  rw [h, if_pos rfl, List.findIdx?_isSome]
  rfl
set_option maxRecDepth 100000 in
set_option maxHeartbeats 1000000 in
theorem at_c (v : Value) (xs : List EnS.En) (s : List UInt8) (w : World) (hE : Env w) (h : EnsIn w v xs) (hl : xs.length ≤ 1048576) (hs : s.length ≤ 1000000) :
    Calls Tryz.prog 44 #[v, .string ⟨s.toArray⟩] w (IdxRetI (atI xs s) w) := by
  have h1 := rnnormal_c s hs w hE
  unfold NmTxt at h1
  have HR0 : Hid (atI xs s = if (DnS.normN s).2 = 0 then xs.findIdx? (isNm (DnS.normN s).1) else none) := Lib.hid rfl
  generalize atI xs s = R at *
  generalize DnS.normN s = N at *
  obtain ⟨n, e0⟩ := N
  simp only at h1 HR0
  obtain ⟨a, c, rfl, hc, hat⟩ := SliceP.at h
  have HAT := Lib.hid hat
  have HFND := Lib.hid (fun k (hk : k < xs.length) => idx_found (p := isNm n) hk)
  have HNON := Lib.hid (idx_none (p := isNm n) (xs := xs))
  have HTM := Lib.hid (fun k (hk : k < xs.length) => take_miss (p := isNm n) hk)
  have HP : Hid (∀ e : EnS.En, isNm n e = (e.name == n)) := Lib.hid (fun _ => rfl)
  generalize xs.findIdx? (isNm n) = I at *
  generalize isNm n = q at *
  clear hat h
  generalize hnn : xs.length = m at hc hl ⊢
  have HN := Lib.hid hnn
  clear hnn
  by_cases he : e0 = 0
  · subst he
    have HR : Hid (R = I) := Lib.hid (HR0.out.trans (if_pos rfl))
    clear HR0
    go_enter Tryz.func44, Tryz.ntmps44
    go_wp2_with fail
    refine h1.mono ?_; rintro e w1 ⟨rfl, hb1⟩
    go_wp2_with fail
    go_loop [15] (fun i => ∃ k : Nat, k ≤ m ∧ i = .int .i64 k ∧ Hid (∀ x ∈ xs.take k, q x = false)) (fun i => m - (intOf i).toNat)
    case atStart => exact ⟨0, Nat.zero_le _, rfl, Lib.hid (fun x hx => by cases hx)⟩
    case round =>
      obtain ⟨k, hk, rfl, HA⟩ := hrel
      by_cases hlt : k < m
      · have hlt2 : k < xs.length := by rw [HN.out]; exact hlt
        obtain ⟨g, o, rfl, hg, _, hra⟩ := HAT.out k hlt2
        obtain ⟨c0, a1, p1, c1, hp1, hattrs⟩ := EnAt.parts (EnAt.call hra hg trivial hb1)
        have HF := Lib.hid (HFND.out k hlt2 HA.out)
        have HT := Lib.hid (HTM.out k hlt2 HA.out)
        have HPX := Lib.hid (HP.out xs[k])
        generalize xs[k] = x at *
        obtain ⟨name, attrs⟩ := x
        simp only at c0 c1 HPX
        clear hra hlt2 HFND HNON HTM hattrs HP
        cases hq : (name == n) with
        | true =>
          have HZ := Lib.hid (HF.out (HPX.out.trans hq))
          go_wp2_with fail
          go_ret
          exact ⟨by rw [HR.out, HZ.out]; rfl, hb1⟩
        | false =>
          have HZ := Lib.hid (HT.out (HPX.out.trans hq))
          go_wp2_with fail
          go_round
          case rel => exact ⟨k + 1, by omega, by go_num, HZ⟩
          case measure => simp [intOf]; omega
      · have HALL : Hid (I = none) := Lib.hid (HNON.out (by have := HA.out; rwa [List.take_of_length_le (by rw [HN.out]; omega)] at this))
        go_wp2_with fail
        go_ret
        exact ⟨by rw [HR.out, HALL.out]; rfl, hb1⟩
  · have hez : (e0 == 0) = false := by simpa using he
    have HR : Hid (R = none) := Lib.hid (HR0.out.trans (if_neg he))
    clear HR0
    go_enter Tryz.func44, Tryz.ntmps44
    go_wp2_with fail
    refine h1.mono ?_; rintro e w1 ⟨rfl, hb1⟩
    go_wp2_with fail
    go_loop [15] (fun i => ∃ k : Nat, k ≤ m ∧ i = .int .i64 k) (fun i => m - (intOf i).toNat)
    case atStart => exact ⟨0, Nat.zero_le _, rfl⟩
    case round =>
      obtain ⟨k, hk, rfl⟩ := hrel
      by_cases hlt : k < m
      · go_wp2_with fail
        go_round
        case rel => exact ⟨k + 1, by omega, by go_num⟩
        case measure => simp [intOf]; omega
      · have hkn : k = m := by omega
        subst hkn
        go_wp2_with fail
        go_ret
        exact ⟨by rw [HR.out]; rfl, hb1⟩

set_option maxRecDepth 100000 in
set_option maxHeartbeats 8000000 in
theorem find13_c (v : Value) (xs : List EnS.En) (s : List UInt8) (follow : Bool) (w : World) (hE : Env w) (h : EnsIn w v xs) (hf : FitE xs) (hs : s.length ≤ 1000000) :
    Calls Tryz.prog 34 #[v, .string ⟨s.toArray⟩, .bool follow] w (StepRet (EnS.findS xs s follow) w) := by
  have h1 := dnnormal_c s hs w hE
  unfold NmTxt at h1
  have hnl := DnS.norm_len s
  have HB := Lib.hid (fun n e => EnS.find_bad (l := xs) (s := s) (n := n) (e := e) (f := follow))
  have HOF := Lib.hid (fun n => EnS.find_off (l := xs) (s := s) (n := n))
  have HON := Lib.hid (fun n => EnS.find_on (l := xs) (s := s) (n := n))
  have HNN := Lib.hid (fun h => DnS.norm_norm (s := s) h)
  obtain ⟨n, e0, hNN⟩ : ∃ n e, DnS.normN s = (n, e) := ⟨_, _, rfl⟩
  rw [hNN] at h1 hnl HNN
  simp only at h1 hnl HNN
  obtain ⟨a, c, hva, hc⟩ := SliceP.form h
  subst hva
  by_cases he : e0 = 0
  case neg =>
    have HR := Lib.hid (HB.out n e0 hNN he)
    have hez : (e0 != 0) = true := by simpa using he
    clear HB HOF HON hNN HNN h hf
    generalize xs.length = m at *
    go_enter Tryz.func34, Tryz.ntmps34
    go_wp2_with fail
    refine h1.mono ?_; rintro e w1 ⟨rfl, hb1⟩
    go_wp2_with fail
    go_ret3
    exact StepRet.mk' HR.out hb1
  subst he
  have HNO : Hid (DnS.normN n = (n, 0)) := Lib.hid (HNN.out rfl)
  have HOF := Lib.hid (HOF.out n hNN)
  have HON := Lib.hid (HON.out n hNN)
  have hin := fun n w (hw : EnsIn w (.slice a xs.length c) xs) => in_c n _ xs w hw hf.1
  have hst := fun n w hE (hw : EnsIn w (.slice a xs.length c) xs) hn => step_c _ xs n w hE hw hf hn
  unfold NmBool at hin
  unfold StepRet at hst
  have HI := Lib.hid h
  clear HB hNN HNN h hf hc
  generalize hnn : xs.length = m at *
  clear hnn
  cases follow with
  | false =>
    have HX := HOF
    clear HOF HON hst
    go_enter Tryz.func34, Tryz.ntmps34
    go_wp2_with fail
    refine h1.mono ?_; rintro e w1 ⟨rfl, hb1⟩
    go_wp2_with fail
    refine (begin_c n w1).mono ?_; rintro e w2 ⟨b, rfl, hT2, hb2⟩
    have hz2 := below_trans hb1 hb2
    go_wp2_with fail
    refine wp_loop_rounds 1 ?_
    rw [rounds_succ]
    have hii : EnsIn w2 (.slice a m c) xs := HI.out.call hz2
    by_cases hn0 : n = []
    · have HZ := Lib.hid (HX.out.trans (EnS.end_empty hn0))
      clear HX
      subst hn0
      go_wp2_with fail
      refine (moved_c _ _ _ _ hT2).mono ?_; rintro e wz ⟨rfl, rfl⟩
      go_wp2_with fail
      go_ret3
      exact StepRet.mk' HZ.out hz2
    · have hn1 : n.isEmpty = false := by simpa using hn0
      have hn2 : (n == []) = false := by simpa using hn0
      have hn3 : (n != []) = true := by simpa using hn0
      have HOU := Lib.hid (fun h => HX.out.trans (EnS.end_out hn0 h))
      have HIN := Lib.hid (fun h => HX.out.trans (EnS.end_in h))
      clear hn0 HX
      have hcl := hin n w2 hii
      cases hq : EnS.inS xs n with
      | true =>
        rw [hq] at hcl
        have HZ := Lib.hid (HIN.out hq)
        clear HIN HOU hq
        go_wp2_with fail
        refine hcl.mono ?_; rintro e wy ⟨rfl, hby⟩
        have hTy := hT2.call hby
        go_wp2_with fail
        refine (moved_c _ _ [n] _ hTy).mono ?_; rintro e wz ⟨rfl, rfl⟩
        go_wp2_with fail
        go_ret3
        exact StepRet.mk' HZ.out (hz2.trans (hby.mono hz2.size))
      | false =>
        rw [hq] at hcl
        have HZ := Lib.hid (HOU.out hq)
        clear HIN HOU hq
        go_wp2_with fail
        refine hcl.mono ?_; rintro e wy ⟨rfl, hby⟩
        have hTy := hT2.call hby
        go_wp2_with fail
        refine (lost_c _ _ [n] _ hTy).mono ?_; rintro e wz ⟨rfl, rfl⟩
        go_wp2_with fail
        go_ret3
        exact StepRet.mk' HZ.out (hz2.trans (hby.mono hz2.size))
  | true =>
    have HX := HON
    clear HOF HON
    generalize EnS.findS xs s true = R at *
    go_enter Tryz.func34, Tryz.ntmps34
    go_wp2_with fail
    refine h1.mono ?_; rintro e w1 ⟨rfl, hb1⟩
    go_wp2_with fail
    refine (begin_c n w1).mono ?_; rintro e w2 ⟨b, rfl, hT2, hb2⟩
    have hz2 := below_trans hb1 hb2
    have hBs : w.heap.size ≤ w1.heap.size := hb1.size
    go_wp2_with fail
    go_loopw [9] (fun nv wr => ∃ (seen : List (List UInt8)) (q : List UInt8), nv = .string ⟨q.toArray⟩ ∧ TrailAt wr w1.heap.size b seen ∧ 1 ≤ seen.length ∧ seen.length ≤ 17 ∧ Hid (R = EnS.goalS xs (EnS.trailS xs (18 - seen.length) seen q)) ∧ q.length ≤ 1000000 ∧ Below w.heap.size w wr) (fun _ wr => 18 - lenAt wr b)
    case atStart => exact ⟨[n], n, rfl, hT2, by simp, by simp, HX, by omega, hz2⟩
    case round =>
      obtain ⟨seen, q, rfl, hT, hl1, hl2, HQ, hql, hb⟩ := hrel
      clear HX
      have hlen := hT.len
      obtain ⟨k, hk⟩ : ∃ k, 18 - seen.length = k + 1 := ⟨17 - seen.length, by omega⟩
      rw [hk] at HQ
      have hs1 := hst q wr (hE.below hb) (HI.out.call hb) hql
      obtain ⟨tn, more, code, hS⟩ : ∃ tn more code, EnS.stepS xs q = (tn, more, code) := ⟨_, _, _, rfl⟩
      rw [hS] at hs1
      simp only at hs1
      by_cases hc0 : code = 0
      case neg =>
        have hez : (code != 0) = true := by simpa using hc0
        have HZ : Hid (R = ([], false, code)) := Lib.hid (by rw [HQ.out, EnS.trail_code hS hc0, EnS.goal_bad xs hc0])
        clear hS HQ hst hk
        go_wp2_with fail
        refine hs1.mono ?_; rintro e w3 ⟨rfl, hb3⟩
        go_wp2_with fail
        go_ret3
        exact StepRet.mk' HZ.out (hb.trans (hb3.mono hb.size))
      subst hc0
      cases more with
      | false =>
        have HX : Hid (R = EnS.endS xs seen q) := Lib.hid (by rw [HQ.out, EnS.trail_stop hS, EnS.goal_good])
        clear hS HQ hst hk
        go_wp2_with fail
        refine hs1.mono ?_; rintro e w3 ⟨rfl, hb3⟩
        have hT3 := hT.call hb3
        have hb4 := hb.trans (hb3.mono hb.size)
        have hii : EnsIn w3 (.slice a m c) xs := HI.out.call hb4
        by_cases hn0 : q = []
        · have HZ := Lib.hid (HX.out.trans (EnS.end_empty hn0))
          clear HX
          subst hn0
          go_wp2_with fail
          refine (moved_c _ _ _ _ hT3).mono ?_; rintro e wz ⟨rfl, rfl⟩
          go_wp2_with fail
          go_ret3
          exact StepRet.mk' HZ.out hb4
        · have hn1 : q.isEmpty = false := by simpa using hn0
          have hn2 : (q == []) = false := by simpa using hn0
          have hn3 : (q != []) = true := by simpa using hn0
          have HOU := Lib.hid (fun h => HX.out.trans (EnS.end_out hn0 h))
          have HIN := Lib.hid (fun h => HX.out.trans (EnS.end_in h))
          clear hn0 HX
          have hcl := hin q w3 hii
          cases hq : EnS.inS xs q with
          | true =>
            rw [hq] at hcl
            have HZ := Lib.hid (HIN.out hq)
            clear HIN HOU hq
            go_wp2_with fail
            refine hcl.mono ?_; rintro e wy ⟨rfl, hby⟩
            have hTy := hT3.call hby
            go_wp2_with fail
            refine (moved_c _ _ seen _ hTy).mono ?_; rintro e wz ⟨rfl, rfl⟩
            go_wp2_with fail
            go_ret3
            exact StepRet.mk' HZ.out (hb4.trans (hby.mono hb4.size))
          | false =>
            rw [hq] at hcl
            have HZ := Lib.hid (HOU.out hq)
            clear HIN HOU hq
            go_wp2_with fail
            refine hcl.mono ?_; rintro e wy ⟨rfl, hby⟩
            have hTy := hT3.call hby
            go_wp2_with fail
            refine (lost_c _ _ seen _ hTy).mono ?_; rintro e wz ⟨rfl, rfl⟩
            go_wp2_with fail
            go_ret3
            exact StepRet.mk' HZ.out (hb4.trans (hby.mono hb4.size))
      | true =>
        have hsm := EnS.step_small hS
        have HNX := Lib.hid (fun hx => (EnS.trail_no (k := k) (seen := seen) hS hx))
        have HGX := Lib.hid (fun hx => (EnS.trail_on (k := k) (seen := seen) hS hx))
        clear hS hst
        go_wp2_with fail
        refine hs1.mono ?_; rintro e w3 ⟨rfl, hb3⟩
        have hT3 := hT.call hb3
        have hb4 := hb.trans (hb3.mono hb.size)
        go_wp2_with fail
        refine (trailgo_c b _ seen tn _ hT3 (by omega)).mono ?_; rintro e w4 (⟨hx, rfl, rfl⟩ | ⟨hx, rfl, hT4, hb5⟩)
        · have HZ : Hid (R = ([], false, 36)) := Lib.hid (by rw [HQ.out, HNX.out hx, EnS.goal_bad xs (by decide)])
          clear hx HNX HGX HQ hk
          go_wp2_with fail
          go_ret3
          exact StepRet.mk' HZ.out hb4
        · have HZ : Hid (R = EnS.goalS xs (EnS.trailS xs (18 - (seen ++ [tn]).length) (seen ++ [tn]) tn)) := Lib.hid (by
            rw [HQ.out, HGX.out hx, show 18 - (seen ++ [tn]).length = k by rw [List.length_append, List.length_singleton]; omega])
          have hlx : ¬ 16 < seen.length := fun h => hx (.inr h)
          have hlen4 := hT4.len
          clear hx HNX HGX HQ
          go_wp2_with fail
          go_roundw
          case rel => exact ⟨seen ++ [tn], tn, rfl, hT4, by simp, by simp; omega, HZ, by omega, hb4.trans (hb5.mono hBs)⟩
          case measure => rw [hlen4, hlen, List.length_append, List.length_singleton]; omega
end Go.Proofs.YtifjghkgmfmneaaGreatDoor
