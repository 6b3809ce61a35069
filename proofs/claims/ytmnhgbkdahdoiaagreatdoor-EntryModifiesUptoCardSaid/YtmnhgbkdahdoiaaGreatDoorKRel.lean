/- Part of the proof of EntryModifies, shaken. Conditions: those that each theorem states. -/
import Derived.OneCell
import Derived.Test.YtmnhgbkdahdoiaaGreatDoorMMkh
import Derived.Test.YtmnhgbkdahdoiaaGreatDoorMRwe
namespace Go.Proofs.YtmnhgbkdahdoiaaGreatDoor
open Go.RowKit
attribute [local go_sem ↓] Go.wp_at_zero Go.wp_at_succ
def Drawn1 (w : World) (e : Ending) (w' : World) : Prop := e = .returned (.bool true) ∧ ∃ m, w' = w.drewN m
theorem quiet_add2 {P : Program} {f : FuncId} {args : Array Value} {w : World} {a n : Nat} {v : Value}
    (h : Calls P f args (w.drewN (a + n)) fun e w' => e = .returned v ∧ ∃ m, w' = (w.drewN (a + n)).drewN m) :
    Calls P f args (w.drewN (a + n)) fun e w'' => e = .returned v ∧ ∃ m, w'' = w.drewN (a + m) :=
  h.mono fun _ _ ⟨he, m, hm⟩ => ⟨he, n + m, by rw [hm, World.drewN_drewN, Nat.add_assoc]⟩
theorem ne_self (l : List UInt8) : (l != l) = false := by simp
set_option maxRecDepth 100000 in
theorem sametexts_c (v1 v2 : Value) (xs : List (List UInt8)) (w : World) (h1 : StrsIn w v1 xs) (h2 : StrsIn w v2 xs) (hl : xs.length ≤ 4611686018427387904) : Calls Tryz.prog 62 #[v1, v2] w (Drawn1 w) := by
  obtain ⟨a1, c1, rfl, hc1, hat1⟩ := SliceP.at (h1.strsP (fun _ => True) (fun _ _ => trivial))
  obtain ⟨a2, c2, rfl, hc2, hat2⟩ := SliceP.at (h2.strsP (fun _ => True) (fun _ _ => trivial))
  have H1 := Lib.hid hat1
  have H2 := Lib.hid hat2
  clear hat1 hat2 h1 h2
  generalize hn : xs.length = n at hc1 hc2 hl ⊢
  have HN := Lib.hid hn
  clear hn
  go_enter Tryz.func62, Tryz.ntmps62
  go_wp2_with fail
  go_loopw [13] (fun i wr => ∃ k m : Nat, k ≤ n ∧ i = .int .i64 k ∧ wr = w.drewN m) (fun i _ => n - (intOf i).toNat)
  case atStart => exact ⟨0, 0, Nat.zero_le _, rfl, rfl⟩
  case round =>
    obtain ⟨k, m, hk, rfl, rfl⟩ := hrel
    by_cases hlt : k < n
    · have hx : k < xs.length := by rw [HN.out]; exact hlt
      obtain ⟨g1, o1, rfl, _, _, d1⟩ := H1.out k hx
      obtain ⟨g2, o2, rfl, _, _, d2⟩ := H2.out k hx
      generalize xs[k] = s at d1 d2
      unfold StrAt strV at d1 d2
      simp only [Nat.mul_one] at d1 d2
      have hs := ne_self s
      clear hx
      go_wp2_with fail
      go_quiet (fail)
      go_wp2_with fail
      go_roundw
      case rel => exact ⟨k + 1, _, by omega, by go_num, rfl⟩
      case measure => simp [intOf]; omega
    · have hkn : k = n := by omega
      subst hkn
      go_wp2_with fail
      go_ret
      exact ⟨rfl, _, rfl⟩
set_option maxRecDepth 100000 in
set_option maxHeartbeats 1000000 in
theorem sameattrs_c (v1 v2 : Value) (xs : List EnS.At) (w : World) (h1 : AttrsIn w v1 xs) (h2 : AttrsIn w v2 xs) (hl : xs.length ≤ 1048576) (hf : ∀ x ∈ xs, x.vals.length ≤ 1048576) : Calls Tryz.prog 33 #[v1, v2] w (Drawn1 w) := by
  obtain ⟨a1, c1, rfl, hc1, hat1⟩ := SliceP.at h1
  obtain ⟨a2, c2, rfl, hc2, hat2⟩ := SliceP.at h2
  have H1 := Lib.hid hat1
  have H2 := Lib.hid hat2
  have HF := Lib.hid (fun k (h : k < xs.length) => hf xs[k] (List.getElem_mem h))
  clear hat1 hat2 h1 h2 hf
  generalize hn : xs.length = n at hc1 hc2 hl ⊢
  have HN := Lib.hid hn
  clear hn
  go_enter Tryz.func33, Tryz.ntmps33
  go_wp2_with fail
  go_loopw [13] (fun i wr => ∃ k m : Nat, k ≤ n ∧ i = .int .i64 k ∧ wr = w.drewN m) (fun i _ => n - (intOf i).toNat)
  case atStart => exact ⟨0, 0, Nat.zero_le _, rfl, rfl⟩
  case round =>
    obtain ⟨k, m, hk, rfl, rfl⟩ := hrel
    by_cases hlt : k < n
    · have hx : k < xs.length := by rw [HN.out]; exact hlt
      obtain ⟨g1, o1, rfl, _, _, r1⟩ := H1.out k hx
      obtain ⟨g2, o2, rfl, _, _, r2⟩ := H2.out k hx
      have hfl := HF.out k hx
      generalize xs[k] = x at r1 r2 hfl
      obtain ⟨d1, p1, q1, e1, hp1, u1⟩ := AttrAt.parts r1
      obtain ⟨d2, p2, q2, e2, hp2, u2⟩ := AttrAt.parts r2
      obtain ⟨ty, vals⟩ := x
      simp only at d1 d2 e1 e2 hp1 hp2 u1 u2 hfl
      have hs := ne_self ty
      have hst := fun N => sametexts_c _ _ vals (w.drewN N) (StrsIn.call (StrsP.strs u1) (below_drewN w N) (Nat.le_refl _)) (StrsIn.call (StrsP.strs u2) (below_drewN w N) (Nat.le_refl _)) (by omega)
      unfold Drawn1 at hst
      generalize vals.length = L at *
      clear hx r1 r2 u1 u2
      go_wp2_with fail
      go_quiet ((go_at_call 62; exact quiet_add2 (hst _)))
      go_wp2_with fail
      go_roundw
      case rel => exact ⟨k + 1, _, by omega, by go_num, rfl⟩
      case measure => simp [intOf]; omega
    · have hkn : k = n := by omega
      subst hkn
      go_wp2_with fail
      go_ret
      exact ⟨rfl, _, rfl⟩
set_option maxRecDepth 100000 in
theorem same09_c (name : List UInt8) (xs : List EnS.At) (u1 u2 : Value) (w : World) (h1 : AttrsIn w u1 xs) (h2 : AttrsIn w u2 xs) (hl : xs.length ≤ 1048576) (hf : ∀ x ∈ xs, x.vals.length ≤ 1048576) :
    Calls Tryz.prog 13 #[.agg #[.string ⟨name.toArray⟩, u1], .agg #[.string ⟨name.toArray⟩, u2]] w (True_ w) := by
  have hb0 := grow1 w (.cells #[.string ⟨name.toArray⟩, u1] 24)
  have hb1 := grow1 (w.alloc (.cells #[.string ⟨name.toArray⟩, u1] 24)) (.cells #[.string ⟨name.toArray⟩, u2] 24)
  have hb := below_trans hb0 hb1
  have hc := sameattrs_c u1 u2 xs _ (AttrsP.call h1 hb) (AttrsP.call h2 hb) hl hf
  unfold Drawn1 at hc
  have he : (name == name) = true := by simp
  clear h1 h2 hb0 hb1
  go_enter Tryz.func13, Tryz.ntmps13
  go_wp2_with fail
  refine hc.mono ?_; rintro e w1 ⟨rfl, m, rfl⟩
  go_wp2_with fail
  go_ret
  exact ⟨rfl, below_trans hb (below_drewN _ _)⟩
end Go.Proofs.YtmnhgbkdahdoiaaGreatDoor
namespace Go.Proofs.YtmnhgbkdahdoiaaGreatDoor
open Go.RowKit
def FitE (xs : List EnS.En) : Prop := xs.length ≤ 1048576 ∧ ∀ x ∈ xs, x.name.length ≤ 1000000 ∧ FitA x.attrs
def StepRet (r : List UInt8 × Bool × Int) (w : World) (e : Ending) (w' : World) : Prop := e = .returned (.tuple #[.string ⟨r.1.toArray⟩, .bool r.2.1, .int .i64 r.2.2]) ∧ Below w.heap.size w w'
theorem StepRet.mk' {r q : List UInt8 × Bool × Int} {w w' : World} (h : r = q) (hb : Below w.heap.size w w') : StepRet r w (.returned (.tuple #[.string ⟨q.1.toArray⟩, .bool q.2.1, .int .i64 q.2.2])) w' := by subst h; exact ⟨rfl, hb⟩
end Go.Proofs.YtmnhgbkdahdoiaaGreatDoor
namespace Go.Proofs.YtmnhgbkdahdoiaaGreatDoor
open Go.RowKit
theorem Own.one (w : World) (l : List UInt8) : Own (w.alloc (.cells #[.string ⟨l.toArray⟩] 9)) w.heap.size (.slice (some ⟨w.heap.size, 0, none⟩) 1 1) [l] :=
  ⟨rfl, .inr ⟨w.heap.size, 1, #[.string ⟨l.toArray⟩], rfl, Nat.le_refl _, heap_alloc_new w _, Nat.le_refl _, by unfold maxLen; omega, rfl, rfl⟩⟩
end Go.Proofs.YtmnhgbkdahdoiaaGreatDoor
namespace Go.Proofs.YtmnhgbkdahdoiaaGreatDoor
open Go.RowKit
/-! lists that are laid anew -/
theorem strs_lit {w : World} {g : Nat} {T : TypeId} {cs : Array Value} {ok : Nat → Prop} (hw : Whole w g T cs) (hok : ok g) {xs : List (List UInt8)} {n : Nat} (hn : xs.length = n) (h : ∀ (j : Nat) (x : List UInt8), xs[j]? = some x → cs[j]? = some (strV x)) :
    StrsP ok w (.slice (some ⟨g, 0, none⟩) n n) xs := by
  subst hn
  refine ⟨_, _, rfl, Nat.le_refl _, .inr ⟨g, 0, rfl, hw.lt, hok, fun j x hj => ?_⟩⟩
  show w.cell? ⟨g, 0 + j * 1, none⟩ = _
  rw [Nat.zero_add, Nat.mul_one, hw.cell]
  exact h j x hj
theorem attrs_lit {w : World} {g : Nat} {T : TypeId} {cs : Array Value} {ok : Nat → Prop} (hw : Whole w g T cs) (hok : ok g) {xs : List EnS.At} {n : Nat} (hn : xs.length = n)
    (h : ∀ (j : Nat) (x : EnS.At), xs[j]? = some x → cs[j * 2]? = some (strV x.typ) ∧ ∃ u, cs[j * 2 + 1]? = some u ∧ StrsP ok w u x.vals) : AttrsP ok w (.slice (some ⟨g, 0, none⟩) n n) xs := by
  subst hn
  refine ⟨_, _, rfl, Nat.le_refl _, .inr ⟨g, 0, rfl, hw.lt, hok, fun j x hj => ?_⟩⟩
  obtain ⟨h1, u, h2, h3⟩ := h j x hj
  rw [Nat.zero_add]
  exact ⟨(hw.cell _).trans h1, u, (hw.cell _).trans h2, h3⟩
theorem alloc_size (w : World) (o : Obj) : (w.alloc o).heap.size = w.heap.size + 1 := by
  show (w.heap.push _).size = _
  simp
theorem two_attrs (w : World) (t1 v1 t2 v2 : List UInt8) : ∃ W, W = ((w.alloc (.cells #[strV v1] 9)).alloc (.cells #[strV v2] 9)).alloc (.cells #[strV t1, .slice (some ⟨w.heap.size, 0, none⟩) 1 1, strV t2, .slice (some ⟨w.heap.size + 1, 0, none⟩) 1 1] 37) ∧
    W.heap.size = w.heap.size + 3 ∧ Below w.heap.size w W ∧ AttrsP (fun g => w.heap.size ≤ g) W (.slice (some ⟨w.heap.size + 2, 0, none⟩) 2 2) [⟨t1, [v1]⟩, ⟨t2, [v2]⟩] := by
  refine ⟨_, rfl, ?_, ?_, ?_⟩
  · rw [alloc_size, alloc_size, alloc_size]
  · exact below_alloc (below_alloc (grow1 w _) _) _
  · have a1 := Whole.made w 9 #[strV v1]
    have a2 := Whole.made (w.alloc (.cells #[strV v1] 9)) 9 #[strV v2]
    rw [alloc_size] at a2
    have a3 := Whole.made ((w.alloc (.cells #[strV v1] 9)).alloc (.cells #[strV v2] 9)) 37 #[strV t1, .slice (some ⟨w.heap.size, 0, none⟩) 1 1, strV t2, .slice (some ⟨w.heap.size + 1, 0, none⟩) 1 1]
    rw [alloc_size, alloc_size] at a3
    have b1 := (a1.call (grow1 _ (.cells #[strV v2] 9))).call (grow1 _ (.cells #[strV t1, .slice (some ⟨w.heap.size, 0, none⟩) 1 1, strV t2, .slice (some ⟨w.heap.size + 1, 0, none⟩) 1 1] 37))
    have b2 := a2.call (grow1 _ (.cells #[strV t1, .slice (some ⟨w.heap.size, 0, none⟩) 1 1, strV t2, .slice (some ⟨w.heap.size + 1, 0, none⟩) 1 1] 37))
    refine attrs_lit (ok := fun g => w.heap.size ≤ g) (xs := [⟨t1, [v1]⟩, ⟨t2, [v2]⟩]) a3 (show w.heap.size ≤ w.heap.size + 1 + 1 by omega) rfl (fun j x hj => ?_)
    match j, hj with
    | 0, hj =>
      have := Option.some.inj hj; subst this
      exact ⟨rfl, _, rfl, strs_lit b1 (Nat.le_refl _) rfl (fun j x hj => by
        match j, hj with
        | 0, hj => have := Option.some.inj hj; subst this; rfl
        | j + 1, hj => simp at hj)⟩
    | 1, hj =>
      have := Option.some.inj hj; subst this
      exact ⟨rfl, _, rfl, strs_lit b2 (Nat.le_succ _) rfl (fun j x hj => by
        match j, hj with
        | 0, hj => have := Option.some.inj hj; subst this; rfl
        | j + 1, hj => simp at hj)⟩
    | j + 2, hj => simp at hj
theorem cost_fit {xs : List EnS.En} (h : EnS.sumBy EnS.cE xs ≤ 3000) : FitE xs := by
  refine ⟨Nat.le_trans (cost_len xs) (by omega), fun x hx => ?_⟩
  have h1 := EnS.sumBy_mem (f := EnS.cE) hx
  have h2 : EnS.cE x = 1 + x.name.length / 100 + EnS.sumBy EnS.cA x.attrs := rfl
  refine ⟨by omega, Nat.le_trans (cost_attrs x.attrs) (by omega), fun y hy => ?_⟩
  have h3 := EnS.sumBy_mem (f := EnS.cA) hy
  have h4 : EnS.cA y = 1 + y.vals.length + EnS.sumBy EnS.cV y.vals := rfl
  refine ⟨by omega, fun v hv => ?_⟩
  have h5 := EnS.sumBy_mem (f := EnS.cV) hv
  have h6 : EnS.cV v = v.length / 100 := rfl
  omega
end Go.Proofs.YtmnhgbkdahdoiaaGreatDoor
namespace Go.Proofs.YtmnhgbkdahdoiaaGreatDoor
open Go.RowKit
attribute [local go_sem ↓] Go.wp_at_zero Go.wp_at_succ
def awakeMA : List EnS.At := [⟨[99, 110], [[65]]⟩, ⟨[111, 98, 106, 101, 99, 116, 99, 108, 97, 115, 115], [[112, 101, 114, 115, 111, 110]]⟩]
def awakeM : EnS.En := ⟨[99, 110, 61, 97, 44, 100, 99, 61, 120], [⟨[99, 110], [[65]]⟩, ⟨EnS.tClass, [[112, 101, 114, 115, 111, 110]]⟩]⟩
theorem awake09_is : EnS.makeS [67, 78, 61, 97, 44, 100, 99, 61, 120] awakeMA = (awakeM, 0) := by kernel_rfl
theorem awake09_fit : FitA awakeMA ∧ (∀ x ∈ awakeMA, x.typ.length ≤ 1048576) ∧ EnS.sumBy (fun a => a.vals.length) awakeMA ≤ 1048576 ∧ FitA awakeM.attrs ∧ ∀ x ∈ awakeM.attrs, x.typ.length ≤ 1048576 := by
  unfold awakeMA awakeM FitA
  refine ⟨⟨by decide, fun y hy => ?_⟩, fun y hy => ?_, by decide, ⟨by decide, fun y hy => ?_⟩, fun y hy => ?_⟩
  all_goals
    simp only [List.mem_cons, List.not_mem_nil, or_false] at hy
    rcases hy with rfl | rfl
  · exact ⟨by decide, fun v hv => by simp only [List.mem_cons, List.not_mem_nil, or_false] at hv; subst hv; decide⟩
  · exact ⟨by decide, fun v hv => by simp only [List.mem_cons, List.not_mem_nil, or_false] at hv; subst hv; decide⟩
  · decide
  · decide
  · exact ⟨by decide, fun v hv => by simp only [List.mem_cons, List.not_mem_nil, or_false] at hv; subst hv; decide⟩
  · exact ⟨by decide, fun v hv => by simp only [List.mem_cons, List.not_mem_nil, or_false] at hv; subst hv; decide⟩
  · decide
  · decide
set_option maxRecDepth 100000 in
set_option maxHeartbeats 1000000 in
theorem awake09_c (w : World) (hE : Env w) : Calls Tryz.prog 7 #[] w (True_ w) := by
  obtain ⟨W, hW, hsz, hb, hA⟩ := two_attrs w [99, 110] [65] [111, 98, 106, 101, 99, 116, 99, 108, 97, 115, 115] [112, 101, 114, 115, 111, 110]
  have hmk := enmake_c w.heap.size [67, 78, 61, 97, 44, 100, 99, 61, 120] awakeMA (.slice (some ⟨w.heap.size + 2, 0, none⟩) 2 2) W hb.size hA.any awake09_fit.1 awake09_fit.2.1 awake09_fit.2.2.1 (by decide) (hE.below hb)
  unfold MakeRet at hmk
  rw [awake09_is] at hmk
  have hfo := EnS.make_formed awake09_is
  have hfm := fun u W hE h => enformed_c awakeM.name awakeM.attrs u W hE h awake09_fit.2.2.2.1 (by decide) awake09_fit.2.2.2.2
  have hee : (⟨awakeM.name, awakeM.attrs⟩ : EnS.En) = awakeM := rfl
  rw [hee, hfo] at hfm
  unfold NmBool at hfm
  have HEN := Lib.hid (fun W (hb : Below w.heap.size w W) => hE.below hb)
  clear hA hfo hE hee
  subst hW
  simp only [strV] at hmk hb hsz ⊢
  go_enter Tryz.func7, Tryz.ntmps7
  go_wp2_with fail
  refine hmk.mono ?_
  rintro e w1 ⟨u1, rfl, hown, hb1⟩
  have hz1 := below_trans hb hb1
  obtain ⟨ya, yc, rfl⟩ := hown.form
  have hl2 : awakeM.attrs.length = 2 := rfl
  have hn2 : awakeM.name = [99, 110, 61, 97, 44, 100, 99, 61, 120] := rfl
  rw [hl2] at hown
  rw [hl2, hn2]
  have hgA := grow1 w1 (.cells #[.string ⟨#[99, 110, 61, 97, 44, 100, 99, 61, 120]⟩, .slice ya 2 yc] 24)
  have hwA := Whole.made w1 24 #[.string ⟨#[99, 110, 61, 97, 44, 100, 99, 61, 120]⟩, .slice ya 2 yc]
  have hzA := below_trans hz1 hgA
  have q0 := hwA.cell 0
  have q1 := hwA.cell 1
  simp only [List.getElem?_toArray, List.getElem?_cons_zero, List.getElem?_cons_succ] at q0 q1
  have hfm1 := hfm _ _ (HEN.out _ hzA) (hown.attrs.call hgA)
  rw [hn2] at hfm1
  clear hmk hfm hwA hown
  go_wp2_with fail
  refine hfm1.mono ?_
  rintro e w2 ⟨rfl, hb2⟩
  go_wp2_with fail
  go_ret
  exact ⟨rfl, below_trans hzA hb2⟩
def FewRet9 (xs : List EnS.En) (w : World) (e : Ending) (w' : World) : Prop := ∃ b, e = .returned (.bool b) ∧ (b = true → EnS.sumBy EnS.cE xs ≤ 3000) ∧ Below w.heap.size w w'
set_option maxRecDepth 100000 in
theorem few09_c (v : Value) (xs : List EnS.En) (w : World) (h : EnsIn w v xs) (hN : EnS.sumBy EnS.cE xs ≤ 1048576) : Calls Tryz.prog 8 #[v] w (FewRet9 xs w) := by
  have hsm := small_c v xs w h hN
  unfold SmallRet at hsm
  obtain ⟨a, c, rfl, _⟩ := SliceP.form h
  clear h hN
  go_enter Tryz.func8, Tryz.ntmps8
  go_wp2_with fail
  refine hsm.mono ?_; rintro e w1 ⟨b, rfl, rfl, hb⟩
  go_wp2_with fail
  go_ret
  exact ⟨b, rfl, hb, Below.refl _ _⟩
theorem ens_one {w : World} {name : List UInt8} {u : Value} {ys : List EnS.At} (h : AttrsIn w u ys) : EnsIn (w.alloc (.cells #[.string ⟨name.toArray⟩, u] 24)) (.slice (some ⟨w.heap.size, 0, none⟩) 1 1) [⟨name, ys⟩] := by
  have hw := Whole.made w 24 #[.string ⟨name.toArray⟩, u]
  refine ⟨some ⟨w.heap.size, 0, none⟩, 1, rfl, by simp, .inr ⟨w.heap.size, 0, rfl, hw.lt, trivial, fun j y hj => ?_⟩⟩
  cases j with
  | zero =>
    simp only [List.getElem?_cons_zero, Option.some.injEq] at hj
    subst hj
    exact ⟨hw.cell 0, u, hw.cell 1, h.call (grow1 w _)⟩
  | succ j => simp at hj
end Go.Proofs.YtmnhgbkdahdoiaaGreatDoor
