/- The walks of what belongs to a filter's kind: own (the program's), bare (the document's). Conditions: as stated. -/
import Derived.Deep.CutBlock
import Derived.Deep.DeepCutAuto
import Derived.Test.YtjmfknfponjgkaaGreatDoorJFib
set_option maxRecDepth 100000
set_option maxHeartbeats 2000000
namespace Go.Proofs.YtjmfknfponjgkaaGreatDoor
namespace FiS
theorem emp (s : List UInt8) : s = [] \/ (s.isEmpty = false /\ (s == []) = false /\ (s != []) = true /\ ¬ s = []) := by
 cases s with
 | nil => exact .inl rfl
 | cons c r => exact .inr ⟨rfl, rfl, rfl, by simp⟩
def unfit (s : List UInt8) : Bool := !fitsS s
theorem any_unfit (l : List (List UInt8)) : l.any unfit = !l.all fitsS := by
 unfold unfit
 rw [List.any_eq_not_all_not]
 congr 2
 funext s
 simp
def bareK (k : Int) (E V P : Bool) (L F : Bool) (F2 L2 A : Bool) (O : Bool) : Bool :=
 if k = 0 \/ k = 1 then E && V && !P
 else if k = 2 then E && V && !P && O
 else if k = 3 \/ k = 5 \/ k = 6 \/ k = 8 then L && F && !P
 else if k = 7 then L && V && !P
 else if k = 4 then L && V && P && F2 && L2 && A
 else false
theorem bareM_K (k : Int) (a v f l : List UInt8) (s : List (List UInt8)) (n : Nat) : bareM k a v f l s n = bareK k a.isEmpty v.isEmpty (pieced f l s) (leafy a n) (fitsS v) (decide (f.length <= 200)) (decide (l.length <= 200)) (s.all fitsS) (decide (n = 1)) := rfl
theorem all_take {α : Type} {p : α -> Bool} {l : List α} {j : Nat} (hj : j < l.length) : (l.take (j + 1)).all p = ((l.take j).all p && p (l[j]'hj)) := by
 rw [List.take_succ_eq_append_getElem hj, List.all_append]
 simp
theorem all_not {α : Type} {p : α -> Bool} {l : List α} {j : Nat} (hj : j < l.length) (h : p (l[j]'hj) = false) : l.all p = false := by
 rw [List.all_eq_false]
 exact ⟨_, List.getElem_mem hj, by rw [h]; simp⟩
def fidxI (o : Option Nat) : Int := match o with | some i => (i : Int) | none => -1
theorem fidx_found {α : Type} {p : α -> Bool} : ∀ {xs : List α} {k : Nat} (hk : k < xs.length), (∀ x ∈ xs.take k, p x = false) -> p xs[k] = true -> xs.findIdx? p = some k
 | [], k, hk, _, _ => by simp at hk
 | x :: xs, 0, _, _, hp => by rw [List.findIdx?_cons, if_pos (show p x = true from hp)]
 | x :: xs, k + 1, hk, h, hp => by
  rw [List.findIdx?_cons, if_neg (by rw [h x (by simp)]; simp), fidx_found (k := k) (by simpa using hk) (fun y hy => h y (by simp [hy])) (by simpa using hp)]
  rfl
theorem fidx_none {α : Type} {p : α -> Bool} {xs : List α} (h : ∀ x ∈ xs, p x = false) : xs.findIdx? p = none := by
 rw [List.findIdx?_eq_none_iff]; exact h
theorem fidx_miss {α : Type} {p : α -> Bool} {xs : List α} {k : Nat} (hk : k < xs.length) (h : ∀ x ∈ xs.take k, p x = false) (hp : p xs[k] = false) : ∀ x ∈ xs.take (k + 1), p x = false := fun x hx => by
 rw [List.take_succ_eq_append_getElem hk] at hx
 rcases List.mem_append.1 hx with hx | hx
 · exact h x hx
 · have := List.mem_singleton.1 hx; subst this; exact hp
theorem fidx_has (o : Option Nat) : decide (0 <= fidxI o) = o.isSome := by
 cases o with
 | none => rfl
 | some i => simp [fidxI]
theorem fidx_any {α : Type} (p : α -> Bool) (l : List α) : (l.findIdx? p).isSome = l.any p := by
 rw [List.findIdx?_isSome]
end FiS
open Go.RowKit
def BoolR (b : Bool) (w : World) (e : Ending) (w' : World) : Prop := e = .returned (.bool b) /\ Below w.heap.size w w'
def FidxR (o : Option Nat) (w : World) (e : Ending) (w' : World) : Prop := e = .returned (.int .i64 (FiS.fidxI o)) /\ Below w.heap.size w w'
open FiS (Fi)
theorem idxown_c (v : Value) (xs : List (List UInt8)) (w : World) (h : StrsIn w v xs) (hl : xs.length <= 1048576) :
  Calls Tryz.prog 90 #[v, .func (.func 65) #[] #[]] w (FidxR (xs.findIdx? FiS.unfit) w) := by
 obtain ⟨a, c, rfl, hc, hat⟩ := SliceP.at (h.strsP (fun _ => True) (fun _ _ => trivial))
 have HAT := hZ9 hat
 have HC := fun x w => ownclo_c x w
 have HFND := hZ9 (fun k (hk : k < xs.length) => FiS.fidx_found (p := FiS.unfit) hk)
 have HNON := hZ9 (FiS.fidx_none (p := FiS.unfit) (xs := xs))
 have HTM := hZ9 (fun k (hk : k < xs.length) => FiS.fidx_miss (p := FiS.unfit) hk)
 generalize xs.findIdx? FiS.unfit = R at *
 have HP : Hid (∀ s, FiS.unfit s = !FiS.fitsS s) := hZ9 (fun _ => rfl)
 generalize FiS.unfit = p at *
 clear hat h
 generalize hnn : xs.length = m at hc hl ⊢
 have HN := hZ9 hnn
 clear hnn
 go_enter Tryz.func90, Tryz.ntmps90
 go_wp2_with fail
 go_loopw [8] (fun i wr => ∃ k : Nat, k <= m /\ i = .int .i64 k /\ Hid (∀ x ∈ xs.take k, p x = false) /\ Below w.heap.size w wr) (fun i _ => m - (intOf i).toNat)
 case atStart => exact ⟨0, Nat.zero_le _, rfl, hZ9 (fun x hx => by cases hx), Below.refl _ _⟩
 case round =>
  obtain ⟨k, hk, rfl, HA, hb⟩ := hrel
  by_cases hlt : k < m
  · have hlt2 : k < xs.length := by rw [HN.out]; exact hlt
    obtain ⟨g, o, rfl, hg, _, hra⟩ := HAT.out k hlt2
    have c0 : wr.cell? ⟨g, o + k, none⟩ = some (strV xs[k]) := by
     have : w.cell? ⟨g, o + k * 1, none⟩ = some (strV xs[k]) := hra
     rw [Nat.mul_one] at this
     exact keepC this hb
    have HF := hZ9 (HFND.out k hlt2 HA.out)
    have HT := hZ9 (HTM.out k hlt2 HA.out)
    have HPk := hZ9 (HP.out xs[k])
    generalize xs[k] = x at *
    unfold strV at c0
    have hcl := HC x wr
    clear hra hlt2 HFND HNON HTM
    cases hq : p x with
    | true =>
     have HR := hZ9 (HF.out hq)
     rw [<- HPk.out, hq] at hcl
     clear hq HF HT
     go_wp2_with fail
     refine hcl.mono ?_; rintro e w1 ⟨rfl, rfl⟩
     go_wp2_with fail
     go_ret
     exact ⟨by rw [HR.out]; rfl, hb⟩
    | false =>
     have HR := hZ9 (HT.out hq)
     rw [<- HPk.out, hq] at hcl
     clear hq HF HT
     go_wp2_with fail
     refine hcl.mono ?_; rintro e w1 ⟨rfl, rfl⟩
     go_wp2_with fail
     go_roundw
     case rel => exact ⟨k + 1, by omega, by go_num, HR, hb⟩
     case measure => simp [intOf]; omega
  · have HALL : Hid (R = none) := hZ9 (HNON.out (by have := HA.out; rwa [List.take_of_length_le (by rw [HN.out]; omega)] at this))
    go_wp2_with fail
    go_ret
    exact ⟨by rw [HALL.out]; rfl, hb⟩
theorem hasown_c (v : Value) (xs : List (List UInt8)) (w : World) (h : StrsIn w v xs) (hl : xs.length <= 1048576) :
  Calls Tryz.prog 64 #[v, .func (.func 65) #[] #[]] w (BoolR (!xs.all FiS.fitsS) w) := by
 have hi := idxown_c v xs w h hl
 unfold FidxR at hi
 have HR : Hid ((!xs.all FiS.fitsS) = (xs.findIdx? FiS.unfit).isSome) := hZ9 (by rw [FiS.fidx_any, FiS.any_unfit])
 generalize (!xs.all FiS.fitsS) = R at *
 generalize xs.findIdx? FiS.unfit = I at *
 have HI := hZ9 (FiS.fidx_has I)
 generalize FiS.fidxI I = z at *
 obtain ⟨a, c, rfl⟩ := h.form
 go_enter Tryz.func64, Tryz.ntmps64
 go_wp2_with fail
 refine hi.mono ?_; rintro e w1 ⟨rfl, hb1⟩
 go_wp2_with fail
 go_ret
 exact ⟨by rw [HR.out, <- HI.out]; rfl, hb1⟩
theorem own_c (n : Nat) (x : Fi) (v : Value) (w : World) (h : FiIn n w v x) (hat0 : x.attr.length <= 20000) (hany : x.any.length <= 1048576) : Calls Tryz.prog 40 #[v] w (BoolR (FiS.bareS x) w) := by
 unfold BoolR
 obtain ⟨kd, at0, vl, fs, ls, an, ps⟩ := x
 obtain ⟨a5, c5, a6, c6, hv, hss, hc6, hps⟩ := FiV.parts h
 have hv : v = .agg #[.int .i64 kd, .string ⟨at0.toArray⟩, .string ⟨vl.toArray⟩, .string ⟨fs.toArray⟩, .string ⟨ls.toArray⟩, .slice a5 an.length c5, .slice a6 ps.length c6] := hv
 subst hv
 have hss : StrsIn w (.slice a5 an.length c5) an := hss
 have hc6 : ps.length <= c6 := hc6
 have hps : FisP n (fun _ => True) w (.slice a6 ps.length c6) ps := hps
 have hat0 : at0.length <= 20000 := hat0
 have hany : an.length <= 1048576 := hany
 have hN : FiS.bareS (.mk kd at0 vl fs ls an ps) = FiS.bareM kd at0 vl fs ls an ps.length := rfl
 rw [hN]
 clear hN
 obtain ⟨AL, hAL⟩ : ∃ m, an.length = m := ⟨_, rfl⟩
 obtain ⟨PL, hPL⟩ : ∃ m, ps.length = m := ⟨_, rfl⟩
 have HAL := hZ9 hAL
 have HPL := hZ9 hPL
 rw [hAL] at hss
 rw [hPL] at hc6 hps
 try rw [hAL]
 try rw [hPL]
 rw [FiS.bareM_K]
 have hg0 := grow1 w (.cells #[.int .i64 kd, .string ⟨at0.toArray⟩, .string ⟨vl.toArray⟩, .string ⟨fs.toArray⟩, .string ⟨ls.toArray⟩, .slice a5 AL c5, .slice a6 PL c6] 33)
 have hw0 := Whole.made w 33 #[.int .i64 kd, .string ⟨at0.toArray⟩, .string ⟨vl.toArray⟩, .string ⟨fs.toArray⟩, .string ⟨ls.toArray⟩, .slice a5 AL c5, .slice a6 PL c6]
 have hatt := fun w => attribute_c at0 hat0 w
 have hfit := fun w => fits_c vl w
 have HPD : Hid (FiS.pieced fs ls an = (!fs.isEmpty || !ls.isEmpty || decide (0 < AL))) := hZ9 (by rw [<- HAL.out]; rfl)
 have HLF : Hid (FiS.leafy at0 PL = (decide (PL = 0) && FiS.attrS at0)) := hZ9 rfl
 obtain ⟨P, hP⟩ : ∃ b, FiS.pieced fs ls an = b := ⟨_, rfl⟩
 obtain ⟨L, hL⟩ : ∃ b, FiS.leafy at0 PL = b := ⟨_, rfl⟩
 obtain ⟨AT, hAT⟩ : ∃ b, FiS.attrS at0 = b := ⟨_, rfl⟩
 obtain ⟨FT, hFT⟩ : ∃ b, FiS.fitsS vl = b := ⟨_, rfl⟩
 obtain ⟨AA, hAA⟩ : ∃ b, an.all FiS.fitsS = b := ⟨_, rfl⟩
 rw [hP] at HPD ⊢
 rw [hL] at HLF ⊢
 rw [hAT] at HLF hatt
 rw [hFT] at hfit ⊢
 rw [hAA]
 have HAA := hZ9 hAA
 clear hP hL hAT hFT hAA
 have e200 : ∀ s : List UInt8, decide ((s.length : Int) <= 200) = decide (s.length <= 200) := fun s => decide_eq_decide.2 (by omega)
 obtain ⟨F2, hF2⟩ : ∃ b, decide (fs.length <= 200) = b := ⟨_, rfl⟩
 obtain ⟨L2, hL2⟩ : ∃ b, decide (ls.length <= 200) = b := ⟨_, rfl⟩
 have hf2 : decide ((fs.length : Int) <= 200) = F2 := (e200 fs).trans hF2
 have hl2 : decide ((ls.length : Int) <= 200) = L2 := (e200 ls).trans hL2
 rw [hF2, hL2]
 clear hF2 hL2 e200
 obtain ⟨O, hO⟩ : ∃ b, decide (PL = 1) = b := ⟨_, rfl⟩
 have hO2 : ((PL : Int) == 1) = O := by rw [<- hO]; by_cases h : PL = 1 <;> simp [h] <;> omega
 rw [hO]
 clear hO
 obtain ⟨q0, q1, q2, q3, q4, q5, q6⟩ := hw0.seven
 have hhas := fun W (hb : Below w.heap.size w W) => hasown_c (.slice a5 AL c5) an W (hss.call hb (Nat.le_refl _)) hany
 unfold BoolR at hhas
 have hhas2 : ∀ W, Below w.heap.size w W -> Calls Tryz.prog 64 #[.slice a5 AL c5, .func (.func 65) #[] #[]] W fun e w' => e = .returned (.bool (!AA)) /\ Below W.heap.size W w' := fun W hb => by have := hhas W hb; rwa [HAA.out] at this
 clear hhas
 obtain ⟨R, hRR⟩ : ∃ b, FiS.bareK kd at0.isEmpty vl.isEmpty P L FT F2 L2 AA O = b := ⟨_, rfl⟩
 rw [hRR]
 have HRR := hZ9 hRR
 clear hRR h hps hAL hPL hc6
 have HW := hZ9 hw0
 clear hw0
 go_enter Tryz.func40, Tryz.ntmps40
 go_upto_region 1 with fail
 go_cut [3] (fun b wd => b = .bool P /\ wd = (w.alloc (.cells #[.int .i64 kd, .string ⟨at0.toArray⟩, .string ⟨vl.toArray⟩, .string ⟨fs.toArray⟩, .string ⟨ls.toArray⟩, .slice a5 AL c5, .slice a6 PL c6] 33)))
 case first =>
  clear hatt hfit hf2 hl2 hO2
  rcases FiS.emp fs with rfl | ⟨f1, f2, f3, f4⟩
  · rcases FiS.emp ls with rfl | ⟨l1, l2, l3, l4⟩
    · have HP2 : Hid (P = decide ((0 : Int) < (AL : Int))) := hZ9 (by rw [HPD.out]; show (false || false || decide (0 < AL)) = _; simp)
      clear HPD
      go_wp2_with fail
      go_meet
      exact ⟨by rw [HP2.out]; first | rfl | simp, rfl⟩
    · have HP2 : Hid (P = true) := hZ9 (by rw [HPD.out, l1]; simp)
      clear HPD
      go_wp2_with fail
      go_meet
      exact ⟨by rw [HP2.out], rfl⟩
  · have HP2 : Hid (P = true) := hZ9 (by rw [HPD.out, f1]; simp)
    clear HPD
    go_wp2_with fail
    go_meet
    exact ⟨by rw [HP2.out], rfl⟩
 case rest =>
  obtain ⟨rfl, rfl⟩ := hcut
  have HBX := hg0
  clear HPD hg0
  go_upto_region 2 with fail
  go_cut [4] (fun b wd => b = .bool L /\ Whole wd w.heap.size 33 #[.int .i64 kd, .string ⟨at0.toArray⟩, .string ⟨vl.toArray⟩, .string ⟨fs.toArray⟩, .string ⟨ls.toArray⟩, .slice a5 AL c5, .slice a6 PL c6] /\ Below w.heap.size w wd)
  case first =>
   clear hfit hf2 hl2 hO2 hhas2
   by_cases h0 : PL = 0
   · have HL2 : Hid (L = AT) := hZ9 (by rw [HLF.out, decide_eq_true h0, Bool.true_and])
     subst h0
     clear HLF
     have hc := hatt (w.alloc (.cells #[.int .i64 kd, .string ⟨at0.toArray⟩, .string ⟨vl.toArray⟩, .string ⟨fs.toArray⟩, .string ⟨ls.toArray⟩, .slice a5 AL c5, .slice a6 0 c6] 33))
     go_wp2_with fail
     refine hc.mono ?_; rintro e w2 ⟨rfl, hb2⟩
     go_wp2_with fail
     go_meet
     exact ⟨by rw [HL2.out], HW.out.call hb2, HBX.trans (hb2.mono HBX.size)⟩
   · have HL2 : Hid (L = false) := hZ9 (by rw [HLF.out, decide_eq_false h0, Bool.false_and])
     have h00 : ((PL : Int) == 0) = false := by simp; omega
     clear HLF
     go_wp2_with fail
     go_meet
     exact ⟨by rw [HL2.out], HW.out, HBX⟩
  case rest =>
   obtain ⟨rfl, hw, hb⟩ := hcut
   clear HBX HLF HW q0 q1 q2 q3 q4 q5 q6 hatt
   obtain ⟨q0, q1, q2, q3, q4, q5, q6⟩ := hw.seven
   by_cases hk0 : kd = 0
   · subst hk0
     rcases FiS.emp at0 with rfl | ⟨x1, x2, x3, x4⟩
     · rcases FiS.emp vl with rfl | ⟨y1, y2, y3, y4⟩
       · cases P
         · have HR : Hid (R = true) := hZ9 (by rw [<- HRR.out]; simp [FiS.bareK])
           clear HRR
           go_wp2_with fail
           go_ret
           exact ⟨by (rw [HR.out]) <;> rfl, hb⟩
         · have HR : Hid (R = false) := hZ9 (by rw [<- HRR.out]; simp [FiS.bareK])
           clear HRR
           go_wp2_with fail
           go_ret
           exact ⟨by (rw [HR.out]) <;> rfl, hb⟩
       · have HR : Hid (R = false) := hZ9 (by rw [<- HRR.out]; simp [FiS.bareK, y1])
         clear HRR
         go_wp2_with fail
         go_ret
         exact ⟨by (rw [HR.out]) <;> rfl, hb⟩
     · have HR : Hid (R = false) := hZ9 (by rw [<- HRR.out]; simp [FiS.bareK, x1])
       clear HRR
       go_wp2_with fail
       go_ret
       exact ⟨by (rw [HR.out]) <;> rfl, hb⟩
   by_cases hk1 : kd = 1
   · subst hk1
     rcases FiS.emp at0 with rfl | ⟨x1, x2, x3, x4⟩
     · rcases FiS.emp vl with rfl | ⟨y1, y2, y3, y4⟩
       · cases P
         · have HR : Hid (R = true) := hZ9 (by rw [<- HRR.out]; simp [FiS.bareK])
           clear HRR
           go_wp2_with fail
           go_ret
           exact ⟨by (rw [HR.out]) <;> rfl, hb⟩
         · have HR : Hid (R = false) := hZ9 (by rw [<- HRR.out]; simp [FiS.bareK])
           clear HRR
           go_wp2_with fail
           go_ret
           exact ⟨by (rw [HR.out]) <;> rfl, hb⟩
       · have HR : Hid (R = false) := hZ9 (by rw [<- HRR.out]; simp [FiS.bareK, y1])
         clear HRR
         go_wp2_with fail
         go_ret
         exact ⟨by (rw [HR.out]) <;> rfl, hb⟩
     · have HR : Hid (R = false) := hZ9 (by rw [<- HRR.out]; simp [FiS.bareK, x1])
       clear HRR
       go_wp2_with fail
       go_ret
       exact ⟨by (rw [HR.out]) <;> rfl, hb⟩
   by_cases hk2 : kd = 2
   · subst hk2
     rcases FiS.emp at0 with rfl | ⟨x1, x2, x3, x4⟩
     · rcases FiS.emp vl with rfl | ⟨y1, y2, y3, y4⟩
       · cases P
         · have HR : Hid (R = O) := hZ9 (by rw [<- HRR.out]; simp [FiS.bareK])
           clear HRR
           go_wp2_with fail
           go_ret
           exact ⟨by (rw [HR.out]) <;> rfl, hb⟩
         · have HR : Hid (R = false) := hZ9 (by rw [<- HRR.out]; simp [FiS.bareK])
           clear HRR
           go_wp2_with fail
           go_ret
           exact ⟨by (rw [HR.out]) <;> rfl, hb⟩
       · have HR : Hid (R = false) := hZ9 (by rw [<- HRR.out]; simp [FiS.bareK, y1])
         clear HRR
         go_wp2_with fail
         go_ret
         exact ⟨by (rw [HR.out]) <;> rfl, hb⟩
     · have HR : Hid (R = false) := hZ9 (by rw [<- HRR.out]; simp [FiS.bareK, x1])
       clear HRR
       go_wp2_with fail
       go_ret
       exact ⟨by (rw [HR.out]) <;> rfl, hb⟩
   by_cases hk3 : kd = 3
   · subst hk3
     have hc := hfit wc
     cases L with
     | true =>
      cases FT with
      | true =>
       have HR : Hid (R = !P) := hZ9 (by rw [<- HRR.out]; simp [FiS.bareK])
       clear HRR
       go_wp2_with fail
       refine hc.mono ?_; rintro e w2 ⟨rfl, rfl⟩
       go_wp2_with fail
       go_ret
       exact ⟨by (rw [HR.out]) <;> rfl, hb⟩
      | false =>
       have HR : Hid (R = false) := hZ9 (by rw [<- HRR.out]; simp [FiS.bareK])
       clear HRR
       go_wp2_with fail
       refine hc.mono ?_; rintro e w2 ⟨rfl, rfl⟩
       go_wp2_with fail
       go_ret
       exact ⟨by (rw [HR.out]) <;> rfl, hb⟩
     | false =>
      have HR : Hid (R = false) := hZ9 (by rw [<- HRR.out]; simp [FiS.bareK])
      clear HRR
      go_wp2_with fail
      go_ret
      exact ⟨by (rw [HR.out]) <;> rfl, hb⟩
   by_cases hk5 : kd = 5
   · subst hk5
     have hc := hfit wc
     cases L with
     | true =>
      cases FT with
      | true =>
       have HR : Hid (R = !P) := hZ9 (by rw [<- HRR.out]; simp [FiS.bareK])
       clear HRR
       go_wp2_with fail
       refine hc.mono ?_; rintro e w2 ⟨rfl, rfl⟩
       go_wp2_with fail
       go_ret
       exact ⟨by (rw [HR.out]) <;> rfl, hb⟩
      | false =>
       have HR : Hid (R = false) := hZ9 (by rw [<- HRR.out]; simp [FiS.bareK])
       clear HRR
       go_wp2_with fail
       refine hc.mono ?_; rintro e w2 ⟨rfl, rfl⟩
       go_wp2_with fail
       go_ret
       exact ⟨by (rw [HR.out]) <;> rfl, hb⟩
     | false =>
      have HR : Hid (R = false) := hZ9 (by rw [<- HRR.out]; simp [FiS.bareK])
      clear HRR
      go_wp2_with fail
      go_ret
      exact ⟨by (rw [HR.out]) <;> rfl, hb⟩
   by_cases hk6 : kd = 6
   · subst hk6
     have hc := hfit wc
     cases L with
     | true =>
      cases FT with
      | true =>
       have HR : Hid (R = !P) := hZ9 (by rw [<- HRR.out]; simp [FiS.bareK])
       clear HRR
       go_wp2_with fail
       refine hc.mono ?_; rintro e w2 ⟨rfl, rfl⟩
       go_wp2_with fail
       go_ret
       exact ⟨by (rw [HR.out]) <;> rfl, hb⟩
      | false =>
       have HR : Hid (R = false) := hZ9 (by rw [<- HRR.out]; simp [FiS.bareK])
       clear HRR
       go_wp2_with fail
       refine hc.mono ?_; rintro e w2 ⟨rfl, rfl⟩
       go_wp2_with fail
       go_ret
       exact ⟨by (rw [HR.out]) <;> rfl, hb⟩
     | false =>
      have HR : Hid (R = false) := hZ9 (by rw [<- HRR.out]; simp [FiS.bareK])
      clear HRR
      go_wp2_with fail
      go_ret
      exact ⟨by (rw [HR.out]) <;> rfl, hb⟩
   by_cases hk8 : kd = 8
   · subst hk8
     have hc := hfit wc
     cases L with
     | true =>
      cases FT with
      | true =>
       have HR : Hid (R = !P) := hZ9 (by rw [<- HRR.out]; simp [FiS.bareK])
       clear HRR
       go_wp2_with fail
       refine hc.mono ?_; rintro e w2 ⟨rfl, rfl⟩
       go_wp2_with fail
       go_ret
       exact ⟨by (rw [HR.out]) <;> rfl, hb⟩
      | false =>
       have HR : Hid (R = false) := hZ9 (by rw [<- HRR.out]; simp [FiS.bareK])
       clear HRR
       go_wp2_with fail
       refine hc.mono ?_; rintro e w2 ⟨rfl, rfl⟩
       go_wp2_with fail
       go_ret
       exact ⟨by (rw [HR.out]) <;> rfl, hb⟩
     | false =>
      have HR : Hid (R = false) := hZ9 (by rw [<- HRR.out]; simp [FiS.bareK])
      clear HRR
      go_wp2_with fail
      go_ret
      exact ⟨by (rw [HR.out]) <;> rfl, hb⟩
   by_cases hk7 : kd = 7
   · subst hk7
     cases L with
     | true =>
      rcases FiS.emp vl with rfl | ⟨y1, y2, y3, y4⟩
      · have HR : Hid (R = !P) := hZ9 (by rw [<- HRR.out]; simp [FiS.bareK])
        clear HRR
        go_wp2_with fail
        go_ret
        exact ⟨by (rw [HR.out]) <;> rfl, hb⟩
      · have HR : Hid (R = false) := hZ9 (by rw [<- HRR.out]; simp [FiS.bareK, y1])
        clear HRR
        go_wp2_with fail
        go_ret
        exact ⟨by (rw [HR.out]) <;> rfl, hb⟩
     | false =>
      have HR : Hid (R = false) := hZ9 (by rw [<- HRR.out]; simp [FiS.bareK])
      clear HRR
      go_wp2_with fail
      go_ret
      exact ⟨by (rw [HR.out]) <;> rfl, hb⟩
   by_cases hk4 : kd = 4
   · subst hk4
     have hc := hhas2 wc hb
     cases L with
     | true =>
      rcases FiS.emp vl with rfl | ⟨y1, y2, y3, y4⟩
      · cases P with
        | false =>
         have HR : Hid (R = false) := hZ9 (by rw [<- HRR.out]; simp [FiS.bareK])
         clear HRR
         go_wp2_with fail
         go_ret
         exact ⟨by (rw [HR.out]) <;> rfl, hb⟩
        | true =>
         cases F2 with
         | false =>
          have HR : Hid (R = false) := hZ9 (by rw [<- HRR.out]; simp [FiS.bareK])
          clear HRR
          go_wp2_with fail
          go_ret
          exact ⟨by (rw [HR.out]) <;> rfl, hb⟩
         | true =>
          cases L2 with
          | false =>
           have HR : Hid (R = false) := hZ9 (by rw [<- HRR.out]; simp [FiS.bareK])
           clear HRR
           go_wp2_with fail
           go_ret
           exact ⟨by (rw [HR.out]) <;> rfl, hb⟩
          | true =>
           have HR : Hid (R = AA) := hZ9 (by rw [<- HRR.out]; simp [FiS.bareK])
           clear HRR
           go_wp2_with fail
           refine hc.mono ?_; rintro e w2 ⟨rfl, hb2⟩
           go_wp2_with fail
           go_ret
           exact ⟨by rw [HR.out]; (try rw [Bool.not_not]) <;> rfl, hb.trans (hb2.mono hb.size)⟩
      · have HR : Hid (R = false) := hZ9 (by rw [<- HRR.out]; simp [FiS.bareK, y1])
        clear HRR
        go_wp2_with fail
        go_ret
        exact ⟨by (rw [HR.out]) <;> rfl, hb⟩
     | false =>
      have HR : Hid (R = false) := hZ9 (by rw [<- HRR.out]; simp [FiS.bareK])
      clear HRR
      go_wp2_with fail
      go_ret
      exact ⟨by (rw [HR.out]) <;> rfl, hb⟩
   have HR : Hid (R = false) := hZ9 (by rw [<- HRR.out]; unfold FiS.bareK; rw [if_neg (by omega), if_neg hk2, if_neg (by omega), if_neg hk7, if_neg hk4])
   clear HRR
   have k0 : (kd == 0) = false := by simpa using hk0
   have k1 : (kd == 1) = false := by simpa using hk1
   have k2 : (kd == 2) = false := by simpa using hk2
   have k3 : (kd == 3) = false := by simpa using hk3
   have k4 : (kd == 4) = false := by simpa using hk4
   have k5 : (kd == 5) = false := by simpa using hk5
   have k6 : (kd == 6) = false := by simpa using hk6
   have k7 : (kd == 7) = false := by simpa using hk7
   have k8 : (kd == 8) = false := by simpa using hk8
   go_wp2_with fail
   go_ret
   exact ⟨by (rw [HR.out]) <;> rfl, hb⟩
theorem bare_c (n : Nat) (x : Fi) (v : Value) (w : World) (h : FiIn n w v x) (hany : x.any.length <= 1048576) : Calls Tryz.prog 47 #[v] w (BoolR (FiS.bareS x) w) := by
 unfold BoolR
 obtain ⟨kd, at0, vl, fs, ls, an, ps⟩ := x
 obtain ⟨a5, c5, a6, c6, hv, hss, hc6, hps⟩ := FiV.parts h
 have hv : v = .agg #[.int .i64 kd, .string ⟨at0.toArray⟩, .string ⟨vl.toArray⟩, .string ⟨fs.toArray⟩, .string ⟨ls.toArray⟩, .slice a5 an.length c5, .slice a6 ps.length c6] := hv
 subst hv
 have hss : StrsIn w (.slice a5 an.length c5) an := hss
 have hc6 : ps.length <= c6 := hc6
 have hps : FisP n (fun _ => True) w (.slice a6 ps.length c6) ps := hps
 have hany : an.length <= 1048576 := hany
 have hN : FiS.bareS (.mk kd at0 vl fs ls an ps) = FiS.bareM kd at0 vl fs ls an ps.length := rfl
 rw [hN]
 clear hN
 obtain ⟨AL, hAL⟩ : ∃ m, an.length = m := ⟨_, rfl⟩
 obtain ⟨PL, hPL⟩ : ∃ m, ps.length = m := ⟨_, rfl⟩
 have HAL := hZ9 hAL
 have HPL := hZ9 hPL
 rw [hAL] at hss
 rw [hPL] at hc6 hps
 try rw [hAL]
 try rw [hPL]
 rw [FiS.bareM_K]
 have hg0 := grow1 w (.cells #[.int .i64 kd, .string ⟨at0.toArray⟩, .string ⟨vl.toArray⟩, .string ⟨fs.toArray⟩, .string ⟨ls.toArray⟩, .slice a5 AL c5, .slice a6 PL c6] 25)
 have hw0 := Whole.made w 25 #[.int .i64 kd, .string ⟨at0.toArray⟩, .string ⟨vl.toArray⟩, .string ⟨fs.toArray⟩, .string ⟨ls.toArray⟩, .slice a5 AL c5, .slice a6 PL c6]
 have hatt := fun w => refattr_c at0 w
 have hfit := fun w => reffits_c vl w
 have HPD : Hid (FiS.pieced fs ls an = (!fs.isEmpty || !ls.isEmpty || decide (0 < AL))) := hZ9 (by rw [<- HAL.out]; rfl)
 have HLF : Hid (FiS.leafy at0 PL = (decide (PL = 0) && FiS.attrS at0)) := hZ9 rfl
 obtain ⟨P, hP⟩ : ∃ b, FiS.pieced fs ls an = b := ⟨_, rfl⟩
 obtain ⟨L, hL⟩ : ∃ b, FiS.leafy at0 PL = b := ⟨_, rfl⟩
 obtain ⟨AT, hAT⟩ : ∃ b, FiS.attrS at0 = b := ⟨_, rfl⟩
 obtain ⟨FT, hFT⟩ : ∃ b, FiS.fitsS vl = b := ⟨_, rfl⟩
 obtain ⟨AA, hAA⟩ : ∃ b, an.all FiS.fitsS = b := ⟨_, rfl⟩
 rw [hP] at HPD ⊢
 rw [hL] at HLF ⊢
 rw [hAT] at HLF hatt
 rw [hFT] at hfit ⊢
 rw [hAA]
 have HAA := hZ9 hAA
 clear hP hL hAT hFT hAA
 have e200 : ∀ s : List UInt8, decide ((s.length : Int) <= 200) = decide (s.length <= 200) := fun s => decide_eq_decide.2 (by omega)
 obtain ⟨F2, hF2⟩ : ∃ b, decide (fs.length <= 200) = b := ⟨_, rfl⟩
 obtain ⟨L2, hL2⟩ : ∃ b, decide (ls.length <= 200) = b := ⟨_, rfl⟩
 have hf2 : decide ((fs.length : Int) <= 200) = F2 := (e200 fs).trans hF2
 have hl2 : decide ((ls.length : Int) <= 200) = L2 := (e200 ls).trans hL2
 rw [hF2, hL2]
 clear hF2 hL2 e200
 obtain ⟨O, hO⟩ : ∃ b, decide (PL = 1) = b := ⟨_, rfl⟩
 have hO2 : ((PL : Int) == 1) = O := by rw [<- hO]; by_cases h : PL = 1 <;> simp [h] <;> omega
 rw [hO]
 clear hO
 obtain ⟨q0, q1, q2, q3, q4, q5, q6⟩ := hw0.seven
 obtain ⟨R, hRR⟩ : ∃ b, FiS.bareK kd at0.isEmpty vl.isEmpty P L FT F2 L2 AA O = b := ⟨_, rfl⟩
 rw [hRR]
 have HRR := hZ9 hRR
 clear hRR h hps hAL hPL hc6
 have HW := hZ9 hw0
 clear hw0
 go_enter Tryz.func47, Tryz.ntmps47
 go_upto_region 1 with fail
 go_cut [3] (fun b wd => b = .bool P /\ wd = (w.alloc (.cells #[.int .i64 kd, .string ⟨at0.toArray⟩, .string ⟨vl.toArray⟩, .string ⟨fs.toArray⟩, .string ⟨ls.toArray⟩, .slice a5 AL c5, .slice a6 PL c6] 25)))
 case first =>
  clear hatt hfit hf2 hl2 hO2
  rcases FiS.emp fs with rfl | ⟨f1, f2, f3, f4⟩
  · rcases FiS.emp ls with rfl | ⟨l1, l2, l3, l4⟩
    · have HP2 : Hid (P = decide ((0 : Int) < (AL : Int))) := hZ9 (by rw [HPD.out]; show (false || false || decide (0 < AL)) = _; simp)
      clear HPD
      go_wp2_with fail
      go_meet
      exact ⟨by rw [HP2.out]; first | rfl | simp, rfl⟩
    · have HP2 : Hid (P = true) := hZ9 (by rw [HPD.out, l1]; simp)
      clear HPD
      go_wp2_with fail
      go_meet
      exact ⟨by rw [HP2.out], rfl⟩
  · have HP2 : Hid (P = true) := hZ9 (by rw [HPD.out, f1]; simp)
    clear HPD
    go_wp2_with fail
    go_meet
    exact ⟨by rw [HP2.out], rfl⟩
 case rest =>
  obtain ⟨rfl, rfl⟩ := hcut
  have HBX := hg0
  clear HPD hg0
  have hb := HBX
  clear HBX
  by_cases hk0 : kd = 0
  · subst hk0
    rcases FiS.emp at0 with rfl | ⟨x1, x2, x3, x4⟩
    · rcases FiS.emp vl with rfl | ⟨y1, y2, y3, y4⟩
      · cases P
        · have HR : Hid (R = true) := hZ9 (by rw [<- HRR.out]; simp [FiS.bareK])
          clear HRR
          go_wp2_with fail
          go_ret
          exact ⟨by (rw [HR.out]) <;> rfl, hb⟩
        · have HR : Hid (R = false) := hZ9 (by rw [<- HRR.out]; simp [FiS.bareK])
          clear HRR
          go_wp2_with fail
          go_ret
          exact ⟨by (rw [HR.out]) <;> rfl, hb⟩
      · have HR : Hid (R = false) := hZ9 (by rw [<- HRR.out]; simp [FiS.bareK, y1])
        clear HRR
        go_wp2_with fail
        go_ret
        exact ⟨by (rw [HR.out]) <;> rfl, hb⟩
    · have HR : Hid (R = false) := hZ9 (by rw [<- HRR.out]; simp [FiS.bareK, x1])
      clear HRR
      go_wp2_with fail
      go_ret
      exact ⟨by (rw [HR.out]) <;> rfl, hb⟩
  by_cases hk1 : kd = 1
  · subst hk1
    rcases FiS.emp at0 with rfl | ⟨x1, x2, x3, x4⟩
    · rcases FiS.emp vl with rfl | ⟨y1, y2, y3, y4⟩
      · cases P
        · have HR : Hid (R = true) := hZ9 (by rw [<- HRR.out]; simp [FiS.bareK])
          clear HRR
          go_wp2_with fail
          go_ret
          exact ⟨by (rw [HR.out]) <;> rfl, hb⟩
        · have HR : Hid (R = false) := hZ9 (by rw [<- HRR.out]; simp [FiS.bareK])
          clear HRR
          go_wp2_with fail
          go_ret
          exact ⟨by (rw [HR.out]) <;> rfl, hb⟩
      · have HR : Hid (R = false) := hZ9 (by rw [<- HRR.out]; simp [FiS.bareK, y1])
        clear HRR
        go_wp2_with fail
        go_ret
        exact ⟨by (rw [HR.out]) <;> rfl, hb⟩
    · have HR : Hid (R = false) := hZ9 (by rw [<- HRR.out]; simp [FiS.bareK, x1])
      clear HRR
      go_wp2_with fail
      go_ret
      exact ⟨by (rw [HR.out]) <;> rfl, hb⟩
  by_cases hk2 : kd = 2
  · subst hk2
    rcases FiS.emp at0 with rfl | ⟨x1, x2, x3, x4⟩
    · rcases FiS.emp vl with rfl | ⟨y1, y2, y3, y4⟩
      · cases P
        · have HR : Hid (R = O) := hZ9 (by rw [<- HRR.out]; simp [FiS.bareK])
          clear HRR
          go_wp2_with fail
          go_ret
          exact ⟨by (rw [HR.out]) <;> rfl, hb⟩
        · have HR : Hid (R = false) := hZ9 (by rw [<- HRR.out]; simp [FiS.bareK])
          clear HRR
          go_wp2_with fail
          go_ret
          exact ⟨by (rw [HR.out]) <;> rfl, hb⟩
      · have HR : Hid (R = false) := hZ9 (by rw [<- HRR.out]; simp [FiS.bareK, y1])
        clear HRR
        go_wp2_with fail
        go_ret
        exact ⟨by (rw [HR.out]) <;> rfl, hb⟩
    · have HR : Hid (R = false) := hZ9 (by rw [<- HRR.out]; simp [FiS.bareK, x1])
      clear HRR
      go_wp2_with fail
      go_ret
      exact ⟨by (rw [HR.out]) <;> rfl, hb⟩
  have hPL0 : ((PL : Int) == 0) = decide (PL = 0) := by by_cases h : PL = 0 <;> simp [h] <;> omega
  obtain ⟨Z, hZ⟩ : ∃ b, decide (PL = 0) = b := ⟨_, rfl⟩
  rw [hZ] at hPL0 HLF
  have HL := HLF.out
  subst HL
  clear hZ HLF
  by_cases hk3 : kd = 3
  · subst hk3
    have hc := hfit (w.alloc (.cells #[.int .i64 3, .string ⟨at0.toArray⟩, .string ⟨vl.toArray⟩, .string ⟨fs.toArray⟩, .string ⟨ls.toArray⟩, .slice a5 AL c5, .slice a6 PL c6] 25))
    have hca := hatt (w.alloc (.cells #[.int .i64 3, .string ⟨at0.toArray⟩, .string ⟨vl.toArray⟩, .string ⟨fs.toArray⟩, .string ⟨ls.toArray⟩, .slice a5 AL c5, .slice a6 PL c6] 25))
    cases AT with
    | false =>
     have HR : Hid (R = false) := hZ9 (by rw [<- HRR.out]; simp [FiS.bareK])
     clear HRR
     go_wp2_with fail
     refine hca.mono ?_; rintro e w2 ⟨rfl, rfl⟩
     go_wp2_with fail
     go_ret
     exact ⟨by (rw [HR.out]) <;> rfl, hb⟩
    | true =>
     cases FT with
     | false =>
      have HR : Hid (R = false) := hZ9 (by rw [<- HRR.out]; simp [FiS.bareK])
      clear HRR
      go_wp2_with fail
      refine hca.mono ?_; rintro e w2 ⟨rfl, rfl⟩
      go_wp2_with fail
      refine hc.mono ?_; rintro e w2 ⟨rfl, rfl⟩
      go_wp2_with fail
      go_ret
      exact ⟨by (rw [HR.out]) <;> rfl, hb⟩
     | true =>
      cases P with
      | true =>
       have HR : Hid (R = false) := hZ9 (by rw [<- HRR.out]; simp [FiS.bareK])
       clear HRR
       go_wp2_with fail
       refine hca.mono ?_; rintro e w2 ⟨rfl, rfl⟩
       go_wp2_with fail
       refine hc.mono ?_; rintro e w2 ⟨rfl, rfl⟩
       go_wp2_with fail
       go_ret
       exact ⟨by (rw [HR.out]) <;> rfl, hb⟩
      | false =>
       have HR : Hid (R = Z) := hZ9 (by rw [<- HRR.out]; simp [FiS.bareK])
       clear HRR
       go_wp2_with fail
       refine hca.mono ?_; rintro e w2 ⟨rfl, rfl⟩
       go_wp2_with fail
       refine hc.mono ?_; rintro e w2 ⟨rfl, rfl⟩
       go_wp2_with fail
       go_ret
       exact ⟨by (rw [HR.out]) <;> rfl, hb⟩
  by_cases hk5 : kd = 5
  · subst hk5
    have hc := hfit (w.alloc (.cells #[.int .i64 5, .string ⟨at0.toArray⟩, .string ⟨vl.toArray⟩, .string ⟨fs.toArray⟩, .string ⟨ls.toArray⟩, .slice a5 AL c5, .slice a6 PL c6] 25))
    have hca := hatt (w.alloc (.cells #[.int .i64 5, .string ⟨at0.toArray⟩, .string ⟨vl.toArray⟩, .string ⟨fs.toArray⟩, .string ⟨ls.toArray⟩, .slice a5 AL c5, .slice a6 PL c6] 25))
    cases AT with
    | false =>
     have HR : Hid (R = false) := hZ9 (by rw [<- HRR.out]; simp [FiS.bareK])
     clear HRR
     go_wp2_with fail
     refine hca.mono ?_; rintro e w2 ⟨rfl, rfl⟩
     go_wp2_with fail
     go_ret
     exact ⟨by (rw [HR.out]) <;> rfl, hb⟩
    | true =>
     cases FT with
     | false =>
      have HR : Hid (R = false) := hZ9 (by rw [<- HRR.out]; simp [FiS.bareK])
      clear HRR
      go_wp2_with fail
      refine hca.mono ?_; rintro e w2 ⟨rfl, rfl⟩
      go_wp2_with fail
      refine hc.mono ?_; rintro e w2 ⟨rfl, rfl⟩
      go_wp2_with fail
      go_ret
      exact ⟨by (rw [HR.out]) <;> rfl, hb⟩
     | true =>
      cases P with
      | true =>
       have HR : Hid (R = false) := hZ9 (by rw [<- HRR.out]; simp [FiS.bareK])
       clear HRR
       go_wp2_with fail
       refine hca.mono ?_; rintro e w2 ⟨rfl, rfl⟩
       go_wp2_with fail
       refine hc.mono ?_; rintro e w2 ⟨rfl, rfl⟩
       go_wp2_with fail
       go_ret
       exact ⟨by (rw [HR.out]) <;> rfl, hb⟩
      | false =>
       have HR : Hid (R = Z) := hZ9 (by rw [<- HRR.out]; simp [FiS.bareK])
       clear HRR
       go_wp2_with fail
       refine hca.mono ?_; rintro e w2 ⟨rfl, rfl⟩
       go_wp2_with fail
       refine hc.mono ?_; rintro e w2 ⟨rfl, rfl⟩
       go_wp2_with fail
       go_ret
       exact ⟨by (rw [HR.out]) <;> rfl, hb⟩
  by_cases hk6 : kd = 6
  · subst hk6
    have hc := hfit (w.alloc (.cells #[.int .i64 6, .string ⟨at0.toArray⟩, .string ⟨vl.toArray⟩, .string ⟨fs.toArray⟩, .string ⟨ls.toArray⟩, .slice a5 AL c5, .slice a6 PL c6] 25))
    have hca := hatt (w.alloc (.cells #[.int .i64 6, .string ⟨at0.toArray⟩, .string ⟨vl.toArray⟩, .string ⟨fs.toArray⟩, .string ⟨ls.toArray⟩, .slice a5 AL c5, .slice a6 PL c6] 25))
    cases AT with
    | false =>
     have HR : Hid (R = false) := hZ9 (by rw [<- HRR.out]; simp [FiS.bareK])
     clear HRR
     go_wp2_with fail
     refine hca.mono ?_; rintro e w2 ⟨rfl, rfl⟩
     go_wp2_with fail
     go_ret
     exact ⟨by (rw [HR.out]) <;> rfl, hb⟩
    | true =>
     cases FT with
     | false =>
      have HR : Hid (R = false) := hZ9 (by rw [<- HRR.out]; simp [FiS.bareK])
      clear HRR
      go_wp2_with fail
      refine hca.mono ?_; rintro e w2 ⟨rfl, rfl⟩
      go_wp2_with fail
      refine hc.mono ?_; rintro e w2 ⟨rfl, rfl⟩
      go_wp2_with fail
      go_ret
      exact ⟨by (rw [HR.out]) <;> rfl, hb⟩
     | true =>
      cases P with
      | true =>
       have HR : Hid (R = false) := hZ9 (by rw [<- HRR.out]; simp [FiS.bareK])
       clear HRR
       go_wp2_with fail
       refine hca.mono ?_; rintro e w2 ⟨rfl, rfl⟩
       go_wp2_with fail
       refine hc.mono ?_; rintro e w2 ⟨rfl, rfl⟩
       go_wp2_with fail
       go_ret
       exact ⟨by (rw [HR.out]) <;> rfl, hb⟩
      | false =>
       have HR : Hid (R = Z) := hZ9 (by rw [<- HRR.out]; simp [FiS.bareK])
       clear HRR
       go_wp2_with fail
       refine hca.mono ?_; rintro e w2 ⟨rfl, rfl⟩
       go_wp2_with fail
       refine hc.mono ?_; rintro e w2 ⟨rfl, rfl⟩
       go_wp2_with fail
       go_ret
       exact ⟨by (rw [HR.out]) <;> rfl, hb⟩
  by_cases hk8 : kd = 8
  · subst hk8
    have hc := hfit (w.alloc (.cells #[.int .i64 8, .string ⟨at0.toArray⟩, .string ⟨vl.toArray⟩, .string ⟨fs.toArray⟩, .string ⟨ls.toArray⟩, .slice a5 AL c5, .slice a6 PL c6] 25))
    have hca := hatt (w.alloc (.cells #[.int .i64 8, .string ⟨at0.toArray⟩, .string ⟨vl.toArray⟩, .string ⟨fs.toArray⟩, .string ⟨ls.toArray⟩, .slice a5 AL c5, .slice a6 PL c6] 25))
    cases AT with
    | false =>
     have HR : Hid (R = false) := hZ9 (by rw [<- HRR.out]; simp [FiS.bareK])
     clear HRR
     go_wp2_with fail
     refine hca.mono ?_; rintro e w2 ⟨rfl, rfl⟩
     go_wp2_with fail
     go_ret
     exact ⟨by (rw [HR.out]) <;> rfl, hb⟩
    | true =>
     cases FT with
     | false =>
      have HR : Hid (R = false) := hZ9 (by rw [<- HRR.out]; simp [FiS.bareK])
      clear HRR
      go_wp2_with fail
      refine hca.mono ?_; rintro e w2 ⟨rfl, rfl⟩
      go_wp2_with fail
      refine hc.mono ?_; rintro e w2 ⟨rfl, rfl⟩
      go_wp2_with fail
      go_ret
      exact ⟨by (rw [HR.out]) <;> rfl, hb⟩
     | true =>
      cases P with
      | true =>
       have HR : Hid (R = false) := hZ9 (by rw [<- HRR.out]; simp [FiS.bareK])
       clear HRR
       go_wp2_with fail
       refine hca.mono ?_; rintro e w2 ⟨rfl, rfl⟩
       go_wp2_with fail
       refine hc.mono ?_; rintro e w2 ⟨rfl, rfl⟩
       go_wp2_with fail
       go_ret
       exact ⟨by (rw [HR.out]) <;> rfl, hb⟩
      | false =>
       have HR : Hid (R = Z) := hZ9 (by rw [<- HRR.out]; simp [FiS.bareK])
       clear HRR
       go_wp2_with fail
       refine hca.mono ?_; rintro e w2 ⟨rfl, rfl⟩
       go_wp2_with fail
       refine hc.mono ?_; rintro e w2 ⟨rfl, rfl⟩
       go_wp2_with fail
       go_ret
       exact ⟨by (rw [HR.out]) <;> rfl, hb⟩
  by_cases hk7 : kd = 7
  · subst hk7
    cases AT with
    | false =>
     have hca := hatt (w.alloc (.cells #[.int .i64 7, .string ⟨at0.toArray⟩, .string ⟨vl.toArray⟩, .string ⟨fs.toArray⟩, .string ⟨ls.toArray⟩, .slice a5 AL c5, .slice a6 PL c6] 25))
     have HR : Hid (R = false) := hZ9 (by rw [<- HRR.out]; simp [FiS.bareK])
     clear HRR
     go_wp2_with fail
     refine hca.mono ?_; rintro e w2 ⟨rfl, rfl⟩
     go_wp2_with fail
     go_ret
     exact ⟨by (rw [HR.out]) <;> rfl, hb⟩
    | true =>
     rcases FiS.emp vl with rfl | ⟨y1, y2, y3, y4⟩
     · cases P with
       | true =>
        have hca := hatt (w.alloc (.cells #[.int .i64 7, .string ⟨at0.toArray⟩, .string ⟨([] : List UInt8).toArray⟩, .string ⟨fs.toArray⟩, .string ⟨ls.toArray⟩, .slice a5 AL c5, .slice a6 PL c6] 25))
        have HR : Hid (R = false) := hZ9 (by rw [<- HRR.out]; simp [FiS.bareK])
        clear HRR
        go_wp2_with fail
        refine hca.mono ?_; rintro e w2 ⟨rfl, rfl⟩
        go_wp2_with fail
        go_ret
        exact ⟨by (rw [HR.out]) <;> rfl, hb⟩
       | false =>
        have hca := hatt (w.alloc (.cells #[.int .i64 7, .string ⟨at0.toArray⟩, .string ⟨([] : List UInt8).toArray⟩, .string ⟨fs.toArray⟩, .string ⟨ls.toArray⟩, .slice a5 AL c5, .slice a6 PL c6] 25))
        have HR : Hid (R = Z) := hZ9 (by rw [<- HRR.out]; simp [FiS.bareK])
        clear HRR
        go_wp2_with fail
        refine hca.mono ?_; rintro e w2 ⟨rfl, rfl⟩
        go_wp2_with fail
        go_ret
        exact ⟨by (rw [HR.out]) <;> rfl, hb⟩
     · have hca := hatt (w.alloc (.cells #[.int .i64 7, .string ⟨at0.toArray⟩, .string ⟨vl.toArray⟩, .string ⟨fs.toArray⟩, .string ⟨ls.toArray⟩, .slice a5 AL c5, .slice a6 PL c6] 25))
       have HR : Hid (R = false) := hZ9 (by rw [<- HRR.out]; simp [FiS.bareK, y1])
       clear HRR
       go_wp2_with fail
       refine hca.mono ?_; rintro e w2 ⟨rfl, rfl⟩
       go_wp2_with fail
       go_ret
       exact ⟨by (rw [HR.out]) <;> rfl, hb⟩
  by_cases hk4 : kd = 4
  · subst hk4
    have HTA := hZ9 (fun j (hj : j < an.length) => FiS.all_take (p := FiS.fitsS) hj)
    have HNO := hZ9 (fun j (hj : j < an.length) (h : FiS.fitsS an[j] = false) => FiS.all_not (p := FiS.fitsS) hj h)
    obtain ⟨a', c', e, hcc, hsc⟩ := SliceP.at (hss.strsP (fun _ => True) (fun _ _ => trivial))
    injection e with e1 e2 e3
    rw [<- e1] at hsc
    have HSC := hZ9 hsc
    have hff := fun s w => reffits_c s w
    clear hsc hss e1 e2 e3 hcc
    go_wp2_with fail
    go_loopw [104] (fun i wr => ∃ j : Nat, j <= AL /\ i = .int .i64 j /\ Hid ((an.take j).all FiS.fitsS = true) /\ (w.alloc (.cells #[.int .i64 4, .string ⟨at0.toArray⟩, .string ⟨vl.toArray⟩, .string ⟨fs.toArray⟩, .string ⟨ls.toArray⟩, .slice a5 AL c5, .slice a6 PL c6] 25)) = wr) (fun i _ => AL - (intOf i).toNat)
    case atStart => exact ⟨0, Nat.zero_le _, rfl, hZ9 rfl, rfl⟩
    case round =>
     obtain ⟨j, hj, rfl, HA, rfl⟩ := hrel
     by_cases hlt : j < AL
     · have hlt2 : j < an.length := by rw [HAL.out]; exact hlt
       have HT := hZ9 (HTA.out j hlt2)
       have HN := hZ9 (HNO.out j hlt2)
       obtain ⟨g, o, hae, hg, _, hra⟩ := HSC.out j hlt2
       have hcj : ((w.alloc (.cells #[.int .i64 4, .string ⟨at0.toArray⟩, .string ⟨vl.toArray⟩, .string ⟨fs.toArray⟩, .string ⟨ls.toArray⟩, .slice a5 AL c5, .slice a6 PL c6] 25))).cell? ⟨g, o + j, none⟩ = some (strV an[j]) := by
        have : w.cell? ⟨g, o + j * 1, none⟩ = some (strV an[j]) := hra
        rw [Nat.mul_one] at this
        exact keepC this hb
       clear hra
       clear HTA HNO HSC
       generalize an[j] = s at *
       unfold strV at hcj
       have hcf := hff s (w.alloc (.cells #[.int .i64 4, .string ⟨at0.toArray⟩, .string ⟨vl.toArray⟩, .string ⟨fs.toArray⟩, .string ⟨ls.toArray⟩, .slice a5 AL c5, .slice a6 PL c6] 25))
       subst hae
       have hl0 : (0 : Int) <= (j : Int) := by omega
       have hl1 : (j : Int) < (AL : Int) := by omega
       cases hq : FiS.fitsS s with
       | true =>
        have HA2 : Hid ((an.take (j + 1)).all FiS.fitsS = true) := hZ9 (by rw [HT.out, HA.out, hq]; rfl)
        rw [hq] at hcf
        clear hq HT HN HA
        go_wp2_with fail
        refine hcf.mono ?_; rintro e w2 ⟨rfl, rfl⟩
        go_wp2_with fail
        go_roundw
        case rel => exact ⟨j + 1, by omega, by go_num, HA2, by first | rfl | trivial⟩
        case measure => simp [intOf]; omega
       | false =>
        have HR : Hid (R = false) := hZ9 (by rw [<- HRR.out, <- HAA.out, HN.out hq]; simp [FiS.bareK])
        rw [hq] at hcf
        clear hq HT HN HA HRR
        go_wp2_with fail
        refine hcf.mono ?_; rintro e w2 ⟨rfl, rfl⟩
        go_wp2_with fail
        go_ret
        exact ⟨by (rw [HR.out]) <;> rfl, hb⟩
     · have hA : an.all FiS.fitsS = true := by have := HA.out; rwa [List.take_of_length_le (by rw [HAL.out]; omega)] at this
       have hAA : AA = true := by rw [<- HAA.out]; exact hA
       subst hAA
       have hca := hatt (w.alloc (.cells #[.int .i64 4, .string ⟨at0.toArray⟩, .string ⟨vl.toArray⟩, .string ⟨fs.toArray⟩, .string ⟨ls.toArray⟩, .slice a5 AL c5, .slice a6 PL c6] 25))
       clear HA hA HTA HNO HSC
       cases AT with
       | false =>
        have HR : Hid (R = false) := hZ9 (by rw [<- HRR.out]; simp [FiS.bareK])
        clear HRR
        go_wp2_with fail
        refine hca.mono ?_; rintro e w2 ⟨rfl, rfl⟩
        go_wp2_with fail
        go_ret
        exact ⟨by (rw [HR.out]) <;> rfl, hb⟩
       | true =>
        rcases FiS.emp vl with rfl | ⟨y1, y2, y3, y4⟩
        · cases P with
          | false =>
           have HR : Hid (R = false) := hZ9 (by rw [<- HRR.out]; simp [FiS.bareK])
           clear HRR
           go_wp2_with fail
           refine hca.mono ?_; rintro e w2 ⟨rfl, rfl⟩
           go_wp2_with fail
           go_ret
           exact ⟨by (rw [HR.out]) <;> rfl, hb⟩
          | true =>
           cases Z with
           | false =>
            have HR : Hid (R = false) := hZ9 (by rw [<- HRR.out]; simp [FiS.bareK])
            clear HRR
            go_wp2_with fail
            refine hca.mono ?_; rintro e w2 ⟨rfl, rfl⟩
            go_wp2_with fail
            go_ret
            exact ⟨by (rw [HR.out]) <;> rfl, hb⟩
           | true =>
            cases F2 with
            | false =>
             have HR : Hid (R = false) := hZ9 (by rw [<- HRR.out]; simp [FiS.bareK])
             clear HRR
             go_wp2_with fail
             refine hca.mono ?_; rintro e w2 ⟨rfl, rfl⟩
             go_wp2_with fail
             go_ret
             exact ⟨by (rw [HR.out]) <;> rfl, hb⟩
            | true =>
             have HR : Hid (R = L2) := hZ9 (by rw [<- HRR.out]; simp [FiS.bareK])
             clear HRR
             go_wp2_with fail
             refine hca.mono ?_; rintro e w2 ⟨rfl, rfl⟩
             go_wp2_with fail
             go_ret
             exact ⟨by (rw [HR.out]) <;> rfl, hb⟩
        · have HR : Hid (R = false) := hZ9 (by rw [<- HRR.out]; simp [FiS.bareK, y1])
          clear HRR
          go_wp2_with fail
          refine hca.mono ?_; rintro e w2 ⟨rfl, rfl⟩
          go_wp2_with fail
          go_ret
          exact ⟨by (rw [HR.out]) <;> rfl, hb⟩
  have HR : Hid (R = false) := hZ9 (by rw [<- HRR.out]; unfold FiS.bareK; rw [if_neg (by omega), if_neg hk2, if_neg (by omega), if_neg hk7, if_neg hk4])
  clear HRR
  have k0 : (kd == 0) = false := by simpa using hk0
  have k1 : (kd == 1) = false := by simpa using hk1
  have k2 : (kd == 2) = false := by simpa using hk2
  have k3 : (kd == 3) = false := by simpa using hk3
  have k4 : (kd == 4) = false := by simpa using hk4
  have k5 : (kd == 5) = false := by simpa using hk5
  have k6 : (kd == 6) = false := by simpa using hk6
  have k7 : (kd == 7) = false := by simpa using hk7
  have k8 : (kd == 8) = false := by simpa using hk8
  go_wp2_with fail
  go_ret
  exact ⟨by (rw [HR.out]) <;> rfl, hb⟩
end Go.Proofs.YtjmfknfponjgkaaGreatDoor
