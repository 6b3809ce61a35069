/- The walks of a step of following aliases, the program's and the document's. Conditions: at most 1048576 entries, each of at most as many attributes and values, names and values of at most 1000000 bytes; the library's variables are laid. -/
import Derived.Test.YtifjghkgmfmneaaGreatDoorEnb
import Derived.BigQuiet
namespace Go.Proofs.YtifjghkgmfmneaaGreatDoor
open Go.RowKit

namespace EnS
def lstO (o : Option (List UInt8 × List UInt8)) : Int := match o with | none => -1 | some p => ((DnS.textsS p.1).1.length : Int)
def frO (o : Option (List UInt8 × List UInt8)) : List UInt8 := match o with | none => [] | some p => p.1
def toO (o : Option (List UInt8 × List UInt8)) : List UInt8 := match o with | none => [] | some p => p.2
theorem better_no {n : List UInt8} {acc : Option (List UInt8 × List UInt8)} {e : En} (h : (aliasS e).2 = false) : pickE n acc e = acc := by unfold pickE better; rw [h]; rfl
theorem better_under {n : List UInt8} {acc : Option (List UInt8 × List UInt8)} {e : En} (h : DnS.underS n e.name = false) : pickE n acc e = acc := by unfold pickE better; rw [h, Bool.and_false]; rfl
theorem better_first {n : List UInt8} {e : En} (h : (aliasS e).2 = true) (h2 : DnS.underS n e.name = true) : pickE n none e = some (e.name, (aliasS e).1) := by unfold pickE better; rw [h, h2]; rfl
theorem better_less {n : List UInt8} {q : List UInt8 × List UInt8} {e : En} (h : (aliasS e).2 = true) (h2 : DnS.underS n e.name = true) (h3 : (DnS.textsS e.name).1.length < (DnS.textsS q.1).1.length) : pickE n (some q) e = some (e.name, (aliasS e).1) := by
  have hb : better n (some q) e = true := by
    show ((aliasS e).2 && DnS.underS n e.name && decide ((DnS.textsS e.name).1.length < (DnS.textsS q.1).1.length)) = true
    rw [h, h2, decide_eq_true h3]; rfl
  unfold pickE
  rw [if_pos hb]
theorem better_more {n : List UInt8} {q : List UInt8 × List UInt8} {e : En} (h3 : ¬ (DnS.textsS e.name).1.length < (DnS.textsS q.1).1.length) : pickE n (some q) e = some q := by
  have hb : ¬ better n (some q) e = true := by
    show ¬ ((aliasS e).2 && DnS.underS n e.name && decide ((DnS.textsS e.name).1.length < (DnS.textsS q.1).1.length)) = true
    rw [decide_eq_false h3, Bool.and_false]; simp
  unfold pickE
  rw [if_neg hb]
theorem fold_mem {n : List UInt8} : ∀ {l : List En} {acc : Option (List UInt8 × List UInt8)} {q : List UInt8 × List UInt8}, l.foldl (pickE n) acc = some q → acc = some q ∨ ∃ e ∈ l, q = (e.name, (aliasS e).1)
  | [], _, _, h => .inl h
  | e :: l, acc, q, h => by
    rw [List.foldl_cons] at h
    rcases fold_mem h with h | ⟨x, hx, h⟩
    · unfold pickE at h
      split at h
      · exact .inr ⟨e, List.mem_cons_self .., (Option.some.inj h).symm⟩
      · exact .inl h
    · exact .inr ⟨x, List.mem_cons_of_mem _ hx, h⟩
theorem target_len (v : List UInt8) : (DnS.valueS tTarget v).1.length ≤ 1000 := by
  have h5 : (RuS.typeOf tTarget).2 = 5 := by decide +kernel
  unfold DnS.valueS
  rw [if_pos h5]
  split
  · simp
  · split
    · exact DnS.norm_len v
    · simp
theorem alias_len (e : En) : (aliasS e).1.length ≤ 1000 := by
  unfold aliasS aliasL
  split
  · simp
  · split
    · exact target_len _
    · simp
theorem pick_len {n : List UInt8} {l : List En} {q : List UInt8 × List UInt8} (h : pickS n l = some q) (hf : ∀ e ∈ l, e.name.length ≤ 1000000) : q.1.length ≤ 1000000 ∧ q.2.length ≤ 1000000 := by
  rcases fold_mem h with h | ⟨e, he, rfl⟩
  · cases h
  · exact ⟨hf e he, Nat.le_trans (alias_len e) (by decide)⟩
end EnS
/-- entries of a size that can be looked at -/
def FitE (xs : List EnS.En) : Prop := xs.length ≤ 1048576 ∧ ∀ x ∈ xs, x.name.length ≤ 1000000 ∧ FitA x.attrs
def StepRet (r : List UInt8 × Bool × Int) (w : World) (e : Ending) (w' : World) : Prop := e = .returned (.tuple #[.string ⟨r.1.toArray⟩, .bool r.2.1, .int .i64 r.2.2]) ∧ Below w.heap.size w w'
theorem StepRet.mk' {r q : List UInt8 × Bool × Int} {w w' : World} (h : r = q) (hb : Below w.heap.size w w') : StepRet r w (.returned (.tuple #[.string ⟨q.1.toArray⟩, .bool q.2.1, .int .i64 q.2.2])) w' := by subst h; exact ⟨rfl, hb⟩
theorem stepS_bad {l : List EnS.En} {s n : List UInt8} {e : Int} (h : DnS.normN s = (n, e)) (he : e ≠ 0) : EnS.stepS l s = ([], false, 34) := by unfold EnS.stepS; rw [h, if_neg he]
theorem stepS_good {l : List EnS.En} {s n : List UInt8} (h : DnS.normN s = (n, 0)) : EnS.stepS l s = EnS.turnS n (EnS.pickS n l) := by unfold EnS.stepS; rw [h]; exact if_pos rfl
theorem turnS_good {n : List UInt8} {q : List UInt8 × List UInt8} {x : List UInt8} (h : DnS.moveS n q.1 q.2 = (x, 0)) : EnS.turnS n (some q) = (x, true, 0) := by
  show (if (DnS.moveS n q.1 q.2).2 = 0 then ((DnS.moveS n q.1 q.2).1, true, 0) else ([], false, 33)) = _
  rw [h]; exact if_pos rfl
theorem turnS_bad {n : List UInt8} {q : List UInt8 × List UInt8} {x : List UInt8} {e : Int} (h : DnS.moveS n q.1 q.2 = (x, e)) (he : e ≠ 0) : EnS.turnS n (some q) = ([], false, 33) := by
  show (if (DnS.moveS n q.1 q.2).2 = 0 then ((DnS.moveS n q.1 q.2).1, true, 0) else ([], false, 33)) = _
  rw [h]; exact if_neg he

set_option maxRecDepth 100000 in
set_option maxHeartbeats 4000000 in
theorem step_c (v : Value) (xs : List EnS.En) (s : List UInt8) (w : World) (hE : Env w) (h : EnsIn w v xs) (hf : FitE xs) (hs : s.length ≤ 1000000) :
    Calls Tryz.prog 98 #[v, .string ⟨s.toArray⟩] w (StepRet (EnS.stepS xs s) w) := by
  have h1 := dnnormal_c s hs w hE
  unfold NmTxt at h1
  have hnl := DnS.norm_len s
  have HB := Lib.hid (fun n e => stepS_bad (l := xs) (s := s) (n := n) (e := e))
  have HG := Lib.hid (fun n => stepS_good (l := xs) (s := s) (n := n))
  generalize EnS.stepS xs s = R at *
  obtain ⟨n, e0⟩ : ∃ n e, DnS.normN s = (n, e) := ⟨_, _, rfl⟩
  obtain ⟨e0, hNN⟩ := e0
  rw [hNN] at h1 hnl
  simp only at h1 hnl
  obtain ⟨hl, hfx⟩ := hf
  obtain ⟨a, c, rfl, hc, hat⟩ := SliceP.at h
  have HAT := Lib.hid hat
  have HFX := Lib.hid (fun k (h : k < xs.length) => hfx xs[k] (List.getElem_mem h))
  have HPK := Lib.hid (fun k (h : k < xs.length) => EnS.pick_step (n := n) h)
  have HPL := Lib.hid (fun q (h : EnS.pickS n xs = some q) => EnS.pick_len h (fun e he => (hfx e he).1))
  have HPQ := Lib.hid (fun k q (h : EnS.pickS n (xs.take k) = some q) => EnS.pick_len h (fun e he => (hfx e (List.mem_of_mem_take he)).1))
  clear hat h hfx
  by_cases he : e0 = 0
  case neg =>
    have HR := Lib.hid (HB.out n e0 hNN he)
    have hez : (e0 != 0) = true := by simpa using he
    clear HB HG hNN HAT HFX HPK HPL HPQ
    generalize xs.length = m at *
    go_enter Tryz.func98, Tryz.ntmps98
    go_wp2_with fail
    refine h1.mono ?_; rintro e w1 ⟨rfl, hb1⟩
    go_wp2_with fail
    go_ret3
    exact StepRet.mk' HR.out hb1
  subst he
  have HR := Lib.hid (HG.out n hNN)
  clear HB HG hNN
  generalize hnn : xs.length = m at hc hl ⊢
  have HN := Lib.hid hnn
  clear hnn
  go_enter Tryz.func98, Tryz.ntmps98
  go_wp2_with fail
  refine h1.mono ?_; rintro e w1 ⟨rfl, hb1⟩
  go_wp2_with fail
  go_loopw [9, 10, 11, 26] (fun l f t i wr => ∃ k : Nat, k ≤ m ∧ i = .int .i64 k ∧ l = .int .i64 (EnS.lstO (EnS.pickS n (xs.take k))) ∧ f = .string ⟨(EnS.frO (EnS.pickS n (xs.take k))).toArray⟩ ∧ t = .string ⟨(EnS.toO (EnS.pickS n (xs.take k))).toArray⟩ ∧ Below w.heap.size w wr) (fun _ _ _ i _ => m - (intOf i).toNat)
  case atStart => exact ⟨0, Nat.zero_le _, rfl, rfl, rfl, rfl, hb1⟩
  case round =>
    obtain ⟨k, hk, rfl, rfl, rfl, rfl, hb⟩ := hrel
    by_cases hlt : k < m
    · have hlt2 : k < xs.length := by rw [HN.out]; exact hlt
      obtain ⟨g, o, rfl, hg, _, hra⟩ := HAT.out k hlt2
      have hrx := EnAt.call hra hg trivial hb
      obtain ⟨c0, a1, p1, c1, hp1, hattrs⟩ := EnAt.parts hrx
      have hfk := HFX.out k hlt2
      have HN1 := Lib.hid (HPK.out k hlt2)
      have HQL := Lib.hid (HPQ.out k)
      clear hra hrx HPK HPQ
      generalize xs[k] = x at *
      clear hlt2
      obtain ⟨name, attrs⟩ := x
      obtain ⟨hfn, hfa⟩ := hfk
      simp only at c0 c1 hp1 hattrs hfn hfa
      generalize EnS.pickS n (xs.take k) = A at *
      have hg1 := grow1 wr (.cells #[.string ⟨name.toArray⟩, .slice a1 attrs.length p1] 37)
      have hw1 := Whole.made wr 37 #[.string ⟨name.toArray⟩, .slice a1 attrs.length p1]
      have hE1 := (hE.below hb).below hg1
      have hat1 := hattrs.call hg1
      have hb2 := hb.trans (hg1.mono hb.size)
      have hal := alias_c name attrs _ _ hE1 hat1 hfa
      have hdp := fun w hE => dndepth_c name hfn w hE
      have hun := fun w hE => dnunder_c n name (by omega) hfn w hE
      have HAL := Lib.hid (EnS.better_no (n := n) (acc := A) (e := ⟨name, attrs⟩))
      have HUN := Lib.hid (EnS.better_under (n := n) (acc := A) (e := ⟨name, attrs⟩))
      have HFI := Lib.hid (EnS.better_first (n := n) (e := ⟨name, attrs⟩))
      have HLE := Lib.hid (fun q => EnS.better_less (n := n) (q := q) (e := ⟨name, attrs⟩))
      have HMO := Lib.hid (fun q => EnS.better_more (n := n) (q := q) (e := ⟨name, attrs⟩))
      unfold NmPar at hal
      unfold NmNum at hdp
      unfold NmBool at hun
      simp only at HUN HFI HLE HMO
      generalize EnS.aliasS ⟨name, attrs⟩ = AL at *
      obtain ⟨tg, al⟩ := AL
      generalize DnS.underS n name = un at *
      simp only at hal HAL HFI HLE
      generalize hdl : (DnS.textsS name).1.length = dl at *
      have HDL := Lib.hid hdl
      clear hdl
      generalize hal0 : attrs.length = n1 at *
      clear hattrs hal0 hat1 hfa
      cases al with
      | false =>
        have HN1 := Lib.hid (HN1.out.trans (HAL.out rfl))
        clear HAL HUN HFI HLE HMO hun
        go_wp2_with fail
        refine hal.mono ?_; rintro e wa ⟨rfl, hx1⟩
        have hbA := hb2.trans (hx1.mono hb2.size)
        have hEA := hE1.below hx1
        have q0 := (hw1.call hx1).cell 0
        have q1 := (hw1.call hx1).cell 1
        simp only [List.getElem?_toArray, List.getElem?_cons_zero, List.getElem?_cons_succ] at q0 q1
        go_wp2_with fail
        refine (hdp _ hEA).mono ?_; rintro e wb ⟨rfl, hx2⟩
        have hbB := hbA.trans (hx2.mono hbA.size)
        have hEB := hEA.below hx2
        have q2 := keepC q0 hx2
        have q3 := keepC q1 hx2
        go_wp2_with fail
        go_roundw
        case rel => exact ⟨k + 1, by omega, by go_num, by rw [HN1.out], by rw [HN1.out], by rw [HN1.out], hbB⟩
        case measure => simp [intOf]; omega
      | true =>
        cases un with
        | false =>
          have HN1 := Lib.hid (HN1.out.trans (HUN.out rfl))
          clear HAL HUN HFI HLE HMO
          go_wp2_with fail
          refine hal.mono ?_; rintro e wa ⟨rfl, hx1⟩
          have hbA := hb2.trans (hx1.mono hb2.size)
          have hEA := hE1.below hx1
          have q0 := (hw1.call hx1).cell 0
          have q1 := (hw1.call hx1).cell 1
          simp only [List.getElem?_toArray, List.getElem?_cons_zero, List.getElem?_cons_succ] at q0 q1
          go_wp2_with fail
          refine (hdp _ hEA).mono ?_; rintro e wb ⟨rfl, hx2⟩
          have hbB := hbA.trans (hx2.mono hbA.size)
          have hEB := hEA.below hx2
          have q2 := keepC q0 hx2
          have q3 := keepC q1 hx2
          go_wp2_with fail
          refine (hun _ hEB).mono ?_; rintro e wc ⟨rfl, hx3⟩
          have hbC := hbB.trans (hx3.mono hbB.size)
          have q4 := keepC q2 hx3
          go_wp2_with fail
          go_roundw
          case rel => exact ⟨k + 1, by omega, by go_num, by rw [HN1.out], by rw [HN1.out], by rw [HN1.out], hbC⟩
          case measure => simp [intOf]; omega
        | true =>
          cases A with
          | none =>
            have HN1 := Lib.hid (HN1.out.trans (HFI.out rfl rfl))
            clear HAL HUN HFI HLE HMO
            simp only [EnS.lstO, EnS.frO, EnS.toO]
            go_wp2_with fail
            refine hal.mono ?_; rintro e wa ⟨rfl, hx1⟩
            have hbA := hb2.trans (hx1.mono hb2.size)
            have hEA := hE1.below hx1
            have q0 := (hw1.call hx1).cell 0
            have q1 := (hw1.call hx1).cell 1
            simp only [List.getElem?_toArray, List.getElem?_cons_zero, List.getElem?_cons_succ] at q0 q1
            go_wp2_with fail
            refine (hdp _ hEA).mono ?_; rintro e wb ⟨rfl, hx2⟩
            have hbB := hbA.trans (hx2.mono hbA.size)
            have hEB := hEA.below hx2
            have q2 := keepC q0 hx2
            have q3 := keepC q1 hx2
            go_wp2_with fail
            refine (hun _ hEB).mono ?_; rintro e wc ⟨rfl, hx3⟩
            have hbC := hbB.trans (hx3.mono hbB.size)
            have q4 := keepC q2 hx3
            go_wp2_with fail
            go_quiet (fail)
            go_wp2_with fail
            go_roundw
            case rel => exact ⟨k + 1, by omega, by go_num, by rw [HN1.out]; show _ = Value.int .i64 ((DnS.textsS name).1.length : Int); rw [HDL.out], by rw [HN1.out], by rw [HN1.out], (hbC.trans ((below_drewN wc nq).mono hbC.size))⟩
            case measure => simp [intOf]; omega
          | some q =>
            have HLE := Lib.hid (HLE.out q rfl rfl)
            have HMO := Lib.hid (HMO.out q)
            clear HAL HUN HFI
            simp only [EnS.lstO, EnS.frO, EnS.toO]
            obtain ⟨qa, qb⟩ := q
            simp only at HLE HMO ⊢
            generalize hqe : (DnS.textsS qa).1.length = ql at *
            have HQE := Lib.hid hqe
            clear hqe
            have hz0 : decide ((ql : Int) < 0) = false := decide_eq_false (by omega)
            by_cases hd : dl < ql
            · have HN1 := Lib.hid (HN1.out.trans (HLE.out hd))
              have hz1 : decide ((dl : Int) < (ql : Int)) = true := decide_eq_true (by omega)
              clear HLE HMO
              go_wp2_with fail
              refine hal.mono ?_; rintro e wa ⟨rfl, hx1⟩
              have hbA := hb2.trans (hx1.mono hb2.size)
              have hEA := hE1.below hx1
              have q0 := (hw1.call hx1).cell 0
              have q1 := (hw1.call hx1).cell 1
              simp only [List.getElem?_toArray, List.getElem?_cons_zero, List.getElem?_cons_succ] at q0 q1
              go_wp2_with fail
              refine (hdp _ hEA).mono ?_; rintro e wb ⟨rfl, hx2⟩
              have hbB := hbA.trans (hx2.mono hbA.size)
              have hEB := hEA.below hx2
              have q2 := keepC q0 hx2
              have q3 := keepC q1 hx2
              go_wp2_with fail
              refine (hun _ hEB).mono ?_; rintro e wc ⟨rfl, hx3⟩
              have hbC := hbB.trans (hx3.mono hbB.size)
              have q4 := keepC q2 hx3
              go_wp2_with fail
              go_quiet (fail)
              go_wp2_with fail
              go_roundw
              case rel => exact ⟨k + 1, by omega, by go_num, by rw [HN1.out]; show _ = Value.int .i64 ((DnS.textsS name).1.length : Int); rw [HDL.out], by rw [HN1.out], by rw [HN1.out], (hbC.trans ((below_drewN wc nq).mono hbC.size))⟩
              case measure => simp [intOf]; omega
            · have HN1 := Lib.hid (HN1.out.trans (HMO.out hd))
              have hz1 : decide ((dl : Int) < (ql : Int)) = false := decide_eq_false (by omega)
              clear HLE HMO
              go_wp2_with fail
              refine hal.mono ?_; rintro e wa ⟨rfl, hx1⟩
              have hbA := hb2.trans (hx1.mono hb2.size)
              have hEA := hE1.below hx1
              have q0 := (hw1.call hx1).cell 0
              have q1 := (hw1.call hx1).cell 1
              simp only [List.getElem?_toArray, List.getElem?_cons_zero, List.getElem?_cons_succ] at q0 q1
              go_wp2_with fail
              refine (hdp _ hEA).mono ?_; rintro e wb ⟨rfl, hx2⟩
              have hbB := hbA.trans (hx2.mono hbA.size)
              have hEB := hEA.below hx2
              have q2 := keepC q0 hx2
              have q3 := keepC q1 hx2
              go_wp2_with fail
              refine (hun _ hEB).mono ?_; rintro e wc ⟨rfl, hx3⟩
              have hbC := hbB.trans (hx3.mono hbB.size)
              have q4 := keepC q2 hx3
              go_wp2_with fail
              go_roundw
              case rel => exact ⟨k + 1, by omega, by go_num, by rw [HN1.out]; show _ = Value.int .i64 ((DnS.textsS qa).1.length : Int); rw [HQE.out], by rw [HN1.out], by rw [HN1.out], hbC⟩
              case measure => simp [intOf]; omega
    · have hall : xs.take k = xs := List.take_of_length_le (by rw [HN.out]; omega)
      rw [hall]
      clear HPK HPQ hall
      obtain ⟨A, hA⟩ : ∃ A, EnS.pickS n xs = A := ⟨_, rfl⟩
      rw [hA] at HR ⊢
      cases A with
      | none =>
        have HZ : Hid (R = (n, false, 0)) := Lib.hid HR.out
        clear hA HPL
        simp only [EnS.lstO, EnS.frO, EnS.toO]
        go_wp2_with fail
        go_ret3
        exact StepRet.mk' HZ.out hb
      | some q =>
        obtain ⟨hq1, hq2⟩ := HPL.out q hA
        have hmv := dnmove_c n q.1 q.2 (by omega) hq1 hq2 wr (hE.below hb)
        have HTG := Lib.hid (fun x => turnS_good (n := n) (q := q) (x := x))
        have HTB := Lib.hid (fun x e => turnS_bad (n := n) (q := q) (x := x) (e := e))
        unfold NmTxt at hmv
        clear hA HPL
        generalize EnS.turnS n (some q) = TR at *
        simp only [EnS.lstO, EnS.frO, EnS.toO]
        obtain ⟨qa, qb⟩ := q
        simp only at hmv HTG HTB ⊢
        obtain ⟨x, e1, hM⟩ : ∃ x e, DnS.moveS n qa qb = (x, e) := ⟨_, _, rfl⟩
        rw [hM] at hmv
        simp only at hmv
        generalize (DnS.textsS qa).1.length = ql at *
        have hz0 : decide ((ql : Int) < 0) = false := decide_eq_false (by omega)
        by_cases he1 : e1 = 0
        · subst he1
          have HZ := Lib.hid (HR.out.trans (HTG.out x hM))
          clear HTG HTB HR hM
          go_wp2_with fail
          refine hmv.mono ?_; rintro e w2 ⟨rfl, hb2⟩
          go_wp2_with fail
          go_ret3
          exact StepRet.mk' HZ.out (hb.trans (hb2.mono hb.size))
        · have hez : (e1 != 0) = true := by simpa using he1
          have HZ := Lib.hid (HR.out.trans (HTB.out x e1 hM he1))
          clear HTG HTB HR hM
          go_wp2_with fail
          refine hmv.mono ?_; rintro e w2 ⟨rfl, hb2⟩
          go_wp2_with fail
          go_ret3
          exact StepRet.mk' HZ.out (hb.trans (hb2.mono hb.size))
end Go.Proofs.YtifjghkgmfmneaaGreatDoor
