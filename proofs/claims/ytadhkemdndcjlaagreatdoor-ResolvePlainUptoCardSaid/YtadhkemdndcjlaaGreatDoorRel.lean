/- The walks of the laws ResolveSteps, ResolveFinds, ResolveEnds, and of their helpers. Conditions: the entries that come in are of bulk at most 1048576; the library's variables are laid. The walks of the laws ResolveSteps, ResolveFinds, ResolveEnds, ResolvePlain. Conditions: what comes in is of bulk at most 1048576; the library's variables are laid. -/
import Derived.Test.YtadhkemdndcjlaaGreatDoorReu
namespace Go.Proofs.YtadhkemdndcjlaaGreatDoor
open Go.RowKit

theorem bytes_lst (x : ByteArray) : ∃ l : List UInt8, x = ⟨l.toArray⟩ := ⟨x.data.toList, by cases x; simp⟩
/-! lists that are laid anew -/
theorem strs_lit {w : World} {g : Nat} {T : TypeId} {cs : Array Value} {ok : Nat → Prop} (hw : Whole w g T cs) (hok : ok g) {xs : List (List UInt8)} {n : Nat} (hn : xs.length = n) (h : ∀ (j : Nat) (x : List UInt8), xs[j]? = some x → cs[j]? = some (strV x)) :
    StrsP ok w (.slice (some ⟨g, 0, none⟩) n n) xs := by
  subst hn
  refine ⟨_, _, rfl, Nat.le_refl _, .inr ⟨g, 0, rfl, hw.lt, hok, fun j x hj => ?_⟩⟩
  show w.cell? ⟨g, 0 + j * 1, none⟩ = _
  rw [Nat.zero_add, Nat.mul_one, hw.cell]
  exact h j x hj
theorem attrs_lit {w : World} {g : Nat} {T : TypeId} {cs : Array Value} {ok : Nat → Prop} (hw : Whole w g T cs) (hok : ok g) {xs : List EnS.At} {n : Nat} (hn : xs.length = n)
    (h : ∀ (j : Nat) (x : EnS.At), xs[j]? = some x → cs[j * 2]? = some (strV x.typ) ∧ ∃ u, cs[j * 2 + 1]? = some u ∧ StrsP ok w u x.vals) : AttrsP ok w (.slice (some ⟨g, 0, none⟩) n n) xs := by
  subst hn
  refine ⟨_, _, rfl, Nat.le_refl _, .inr ⟨g, 0, rfl, hw.lt, hok, fun j x hj => ?_⟩⟩
  obtain ⟨h1, u, h2, h3⟩ := h j x hj
  rw [Nat.zero_add]
  exact ⟨(hw.cell _).trans h1, u, (hw.cell _).trans h2, h3⟩
theorem ens_lit {w : World} {g : Nat} {T : TypeId} {cs : Array Value} {ok : Nat → Prop} (hw : Whole w g T cs) (hok : ok g) {xs : List EnS.En} {n : Nat} (hn : xs.length = n)
    (h : ∀ (j : Nat) (x : EnS.En), xs[j]? = some x → cs[j * 2]? = some (strV x.name) ∧ ∃ u, cs[j * 2 + 1]? = some u ∧ AttrsP ok w u x.attrs) : EnsP ok w (.slice (some ⟨g, 0, none⟩) n n) xs := by
  subst hn
  refine ⟨_, _, rfl, Nat.le_refl _, .inr ⟨g, 0, rfl, hw.lt, hok, fun j x hj => ?_⟩⟩
  obtain ⟨h1, u, h2, h3⟩ := h j x hj
  rw [Nat.zero_add]
  exact ⟨(hw.cell _).trans h1, u, (hw.cell _).trans h2, h3⟩
theorem alloc_size (w : World) (o : Obj) : (w.alloc o).heap.size = w.heap.size + 1 := by
  show (w.heap.push _).size = _
  simp
/-- two attributes of one value each, laid anew: the blocks from the world's end on -/
theorem two_attrs (w : World) (t1 v1 t2 v2 : List UInt8) : ∃ W, W = ((w.alloc (.cells #[strV v1] 9)).alloc (.cells #[strV v2] 9)).alloc (.cells #[strV t1, .slice (some ⟨w.heap.size, 0, none⟩) 1 1, strV t2, .slice (some ⟨w.heap.size + 1, 0, none⟩) 1 1] 81) ∧
    W.heap.size = w.heap.size + 3 ∧ Below w.heap.size w W ∧ AttrsP (fun g => w.heap.size ≤ g) W (.slice (some ⟨w.heap.size + 2, 0, none⟩) 2 2) [⟨t1, [v1]⟩, ⟨t2, [v2]⟩] := by
  refine ⟨_, rfl, ?_, ?_, ?_⟩
  · rw [alloc_size, alloc_size, alloc_size]
  · exact below_alloc (below_alloc (grow1 w _) _) _
  · have a1 := Whole.made w 9 #[strV v1]
    have a2 := Whole.made (w.alloc (.cells #[strV v1] 9)) 9 #[strV v2]
    rw [alloc_size] at a2
    have a3 := Whole.made ((w.alloc (.cells #[strV v1] 9)).alloc (.cells #[strV v2] 9)) 81 #[strV t1, .slice (some ⟨w.heap.size, 0, none⟩) 1 1, strV t2, .slice (some ⟨w.heap.size + 1, 0, none⟩) 1 1]
    rw [alloc_size, alloc_size] at a3
    have b1 := (a1.call (grow1 _ (.cells #[strV v2] 9))).call (grow1 _ (.cells #[strV t1, .slice (some ⟨w.heap.size, 0, none⟩) 1 1, strV t2, .slice (some ⟨w.heap.size + 1, 0, none⟩) 1 1] 81))
    have b2 := a2.call (grow1 _ (.cells #[strV t1, .slice (some ⟨w.heap.size, 0, none⟩) 1 1, strV t2, .slice (some ⟨w.heap.size + 1, 0, none⟩) 1 1] 81))
    refine attrs_lit (ok := fun g => w.heap.size ≤ g) (xs := [⟨t1, [v1]⟩, ⟨t2, [v2]⟩]) a3 (show w.heap.size ≤ w.heap.size + 1 + 1 by omega) rfl (fun j x hj => ?_)
    match j, hj with
    | 0, hj =>
      have := Option.some.inj hj; subst this
      exact ⟨rfl, _, rfl, strs_lit b1 (Nat.le_refl _) rfl (fun j x hj => by
        match j, hj with
        | 0, hj => have := Option.some.inj hj; subst this; rfl
        | j + 1, hj => simp at hj)⟩
    | 1, hj =>
      have := Option.some.inj hj; subst this
      exact ⟨rfl, _, rfl, strs_lit b2 (Nat.le_succ _) rfl (fun j x hj => by
        match j, hj with
        | 0, hj => have := Option.some.inj hj; subst this; rfl
        | j + 1, hj => simp at hj)⟩
    | j + 2, hj => simp at hj
def awakeE : List EnS.En := [⟨[99, 110, 61, 97, 108], [⟨EnS.tTarget, [[79, 85, 61, 98]]⟩, ⟨EnS.tClass, [EnS.tAlias]⟩]⟩, ⟨[99, 110, 61, 120, 44, 111, 117, 61, 98], []⟩]
theorem awake13_is : EnS.findS awakeE [67, 78, 61, 120, 44, 99, 110, 61, 97, 108] true = ([99, 110, 61, 120, 44, 111, 117, 61, 98], true, 0) := by decide +kernel
theorem awake13_fit : FitE awakeE := by
  unfold FitE awakeE FitA
  refine ⟨by decide, fun x hx => ?_⟩
  simp only [List.mem_cons, List.not_mem_nil, or_false] at hx
  rcases hx with rfl | rfl
  · refine ⟨by decide, by decide, fun y hy => ?_⟩
    simp only [List.mem_cons, List.not_mem_nil, or_false] at hy
    rcases hy with rfl | rfl
    · refine ⟨by decide, fun v hv => ?_⟩
      simp only [List.mem_cons, List.not_mem_nil, or_false] at hv
      subst hv; decide
    · refine ⟨by decide, fun v hv => ?_⟩
      simp only [List.mem_cons, List.not_mem_nil, or_false] at hv
      subst hv; decide
  · exact ⟨by decide, by decide, fun y hy => by cases hy⟩
set_option maxRecDepth 100000 in
set_option maxHeartbeats 1000000 in
theorem awake13_c (w : World) (hE : Env w) : Calls Tryz.prog 61 #[] w (True_ w) := by
  obtain ⟨W, hW, hsz, hb, hA⟩ := two_attrs w EnS.tTarget [79, 85, 61, 98] EnS.tClass EnS.tAlias
  have hb2 := grow1 W (.cells #[strV [99, 110, 61, 97, 108], .slice (some ⟨w.heap.size + 2, 0, none⟩) 2 2, strV [99, 110, 61, 120, 44, 111, 117, 61, 98], .slice none 0 0] 66)
  have hw2 := Whole.made W 66 #[strV [99, 110, 61, 97, 108], .slice (some ⟨w.heap.size + 2, 0, none⟩) 2 2, strV [99, 110, 61, 120, 44, 111, 117, 61, 98], .slice none 0 0]
  rw [hsz] at hw2
  have hA2 := hA.any.call hb2
  have hens : EnsIn (W.alloc (.cells #[strV [99, 110, 61, 97, 108], .slice (some ⟨w.heap.size + 2, 0, none⟩) 2 2, strV [99, 110, 61, 120, 44, 111, 117, 61, 98], .slice none 0 0] 66)) (.slice (some ⟨w.heap.size + 3, 0, none⟩) 2 2) awakeE := by
    refine ens_lit hw2 trivial rfl (fun j x hj => ?_)
    unfold awakeE at hj
    match j, hj with
    | 0, hj => have := Option.some.inj hj; subst this; exact ⟨rfl, _, rfl, hA2⟩
    | 1, hj => have := Option.some.inj hj; subst this; exact ⟨rfl, _, rfl, SliceP.nil _ _⟩
    | j + 2, hj => simp at hj
  have hz := below_trans hb hb2
  have hf := find13_c _ awakeE [67, 78, 61, 120, 44, 99, 110, 61, 97, 108] true _ (hE.below hz) hens awake13_fit (by decide)
  unfold StepRet at hf
  rw [awake13_is] at hf
  subst hW
  unfold strV EnS.tTarget EnS.tClass EnS.tAlias at hf hz
  simp only at hf hz
  clear hens hw2 hA hA2 hb hb2 hsz
  go_enter Tryz.func61, Tryz.ntmps61
  go_wp2_with fail
  refine hf.mono ?_; rintro e w1 ⟨rfl, hb1⟩
  go_wp2_with fail
  go_ret
  exact ⟨rfl, below_trans hz hb1⟩

/-- of a size that is looked at, and of normal names -/
def FineE (xs : List EnS.En) : Prop := ∀ x ∈ xs, DnS.normN x.name = (x.name, 0) ∧ x.name ≠ []
theorem cost_fit {xs : List EnS.En} (h : EnS.sumBy EnS.cE xs ≤ 3000) : FitE xs := by
  refine ⟨Nat.le_trans (cost_len xs) (by omega), fun x hx => ?_⟩
  have h1 := EnS.sumBy_mem (f := EnS.cE) hx
  have h2 : EnS.cE x = 1 + x.name.length / 100 + EnS.sumBy EnS.cA x.attrs := rfl
  refine ⟨by omega, Nat.le_trans (cost_attrs x.attrs) (by omega), fun y hy => ?_⟩
  have h3 := EnS.sumBy_mem (f := EnS.cA) hy
  have h4 : EnS.cA y = 1 + y.vals.length + EnS.sumBy EnS.cV y.vals := rfl
  refine ⟨by omega, fun v hv => ?_⟩
  have h5 := EnS.sumBy_mem (f := EnS.cV) hv
  have h6 : EnS.cV v = v.length / 100 := rfl
  omega
def FewRet13 (xs : List EnS.En) (s : List UInt8) (w : World) (e : Ending) (w' : World) : Prop := ∃ b, e = .returned (.bool b) ∧ (b = true → FitE xs ∧ s.length ≤ 3000 ∧ FineE xs) ∧ Below w.heap.size w w'
set_option maxRecDepth 100000 in
set_option maxHeartbeats 2000000 in
theorem few13_c (v : Value) (xs : List EnS.En) (s : List UInt8) (w : World) (hE : Env w) (h : EnsIn w v xs) (hN : EnS.sumBy EnS.cE xs ≤ 1048576) (hs : s.length ≤ 1048576) : Calls Tryz.prog 62 #[v, .string ⟨s.toArray⟩] w (FewRet13 xs s w) := by
  have hsm := small_c v xs w h hN
  unfold SmallRet at hsm
  obtain ⟨a, c, rfl, hc, hat⟩ := SliceP.at h
  have HAT := Lib.hid hat
  have hl := cost_len xs
  have HF := Lib.hid (fun h => cost_fit (xs := xs) h)
  have HST : Hid (∀ k (hk : k < xs.length), (∀ x ∈ xs.take k, DnS.normN x.name = (x.name, 0) ∧ x.name ≠ []) → (DnS.normN xs[k].name = (xs[k].name, 0) ∧ xs[k].name ≠ []) → ∀ x ∈ xs.take (k + 1), DnS.normN x.name = (x.name, 0) ∧ x.name ≠ []) := Lib.hid (fun k hk h1 h2 x hx => by
    rw [List.take_succ_eq_append_getElem hk] at hx
    rcases List.mem_append.1 hx with hx | hx
    · exact h1 x hx
    · have := List.mem_singleton.1 hx; subst this; exact h2)
  clear hat h
  have HXB := Lib.hid (fun h x (hx : x ∈ xs) => ((cost_fit (xs := xs) h).2 x hx).1)
  generalize hn : xs.length = n at hc hl hsm ⊢
  have HN := Lib.hid hn
  clear hn
  go_enter Tryz.func62, Tryz.ntmps62
  go_wp2_with fail
  refine hsm.mono ?_; rintro e w1 ⟨b, rfl, rfl, hb⟩
  cases b with
  | false =>
    go_wp2_with fail
    go_ret
    exact ⟨false, rfl, fun h => (by cases h), Below.refl _ _⟩
  | true =>
  have HC := Lib.hid (hb rfl)
  clear hb hsm
  by_cases h3 : 3000 < s.length
  · have hz : (3000 : Int) < (s.length : Int) := by omega
    go_wp2_with fail
    go_ret
    exact ⟨false, rfl, fun h => (by cases h), Below.refl _ _⟩
  have hz : decide ((3000 : Int) < (s.length : Int)) = false := decide_eq_false (by omega)
  have HS : Hid (s.length ≤ 3000) := Lib.hid (by omega)
  clear h3
  go_wp2_with fail
  go_loopw [18] (fun i wr => ∃ k : Nat, k ≤ n ∧ i = .int .i64 k ∧ Hid (∀ x ∈ xs.take k, DnS.normN x.name = (x.name, 0) ∧ x.name ≠ []) ∧ Below w.heap.size w wr) (fun i _ => n - (intOf i).toNat)
  case atStart => exact ⟨0, Nat.zero_le _, rfl, Lib.hid (fun x hx => by cases hx), Below.refl _ _⟩
  case round =>
    obtain ⟨k, hk, rfl, HA, hbw⟩ := hrel
    by_cases hlt : k < n
    · have hlt2 : k < xs.length := by rw [HN.out]; exact hlt
      obtain ⟨g, o, rfl, hg, _, hra⟩ := HAT.out k hlt2
      obtain ⟨c0, a1, p1, c1, hp1, hattrs⟩ := EnAt.parts (EnAt.call hra hg trivial hbw)
      have hxl := HXB.out HC.out xs[k] (List.getElem_mem hlt2)
      have HSX := Lib.hid (HST.out k hlt2 HA.out)
      clear hra HST hattrs
      generalize xs[k] = x at *
      clear hlt2
      obtain ⟨name, attrs⟩ := x
      simp only at c0 c1 hxl HSX
      have hnm := rnnormal_c name hxl wr (hE.below hbw)
      unfold NmTxt at hnm
      generalize DnS.normN name = NN at *
      obtain ⟨q, e0⟩ := NN
      simp only at hnm
      by_cases he : e0 = 0
      case neg =>
        have hez : (e0 != 0) = true := by simpa using he
        go_wp2_with fail
        refine hnm.mono ?_; rintro e w2 ⟨rfl, hb2⟩
        go_wp2_with fail
        go_ret
        exact ⟨false, rfl, fun h => (by cases h), hbw.trans (hb2.mono hbw.size)⟩
      subst he
      by_cases hq : q = name
      case neg =>
        have hq1 : (q != name) = true := by simpa using hq
        have hq2 : (q == name) = false := by simpa using hq
        go_wp2_with fail
        refine hnm.mono ?_; rintro e w2 ⟨rfl, hb2⟩
        have q0 := keepC c0 hb2
        go_wp2_with fail
        go_ret
        exact ⟨false, rfl, fun h => (by cases h), hbw.trans (hb2.mono hbw.size)⟩
      subst hq
      by_cases hn0 : q = []
      · subst hn0
        go_wp2_with fail
        refine hnm.mono ?_; rintro e w2 ⟨rfl, hb2⟩
        have q0 := keepC c0 hb2
        go_wp2_with fail
        go_ret
        exact ⟨false, rfl, fun h => (by cases h), hbw.trans (hb2.mono hbw.size)⟩
      · have hn1 : q.isEmpty = false := by simpa using hn0
        have hn2 : (q == []) = false := by simpa using hn0
        have HZ := Lib.hid (HSX.out ⟨rfl, hn0⟩)
        clear hn0 HSX
        go_wp2_with fail
        refine hnm.mono ?_; rintro e w2 ⟨rfl, hb2⟩
        have q0 := keepC c0 hb2
        go_wp2_with fail
        go_roundw
        case rel => exact ⟨k + 1, by omega, by go_num, HZ, hbw.trans (hb2.mono hbw.size)⟩
        case measure => simp [intOf]; omega
    · have HALL : Hid (FineE xs) := Lib.hid (by have := HA.out; rwa [List.take_of_length_le (by rw [HN.out]; omega)] at this)
      go_wp2_with fail
      go_ret
      exact ⟨true, rfl, fun _ => ⟨HF.out HC.out, HS.out, HALL.out⟩, hbw⟩
end Go.Proofs.YtadhkemdndcjlaaGreatDoor
namespace Go.Proofs.YtadhkemdndcjlaaGreatDoor
open Go.RowKit

set_option maxRecDepth 100000 in
set_option maxHeartbeats 4000000 in
theorem lawresolvesteps_c (v : Value) (xs : List EnS.En) (x1 : ByteArray) (w : World) (h : EnsIn w v xs) (hN : EnS.sumBy EnS.cE xs ≤ 1048576) (hs : x1.data.toList.length ≤ 1048576) (hE : Env w) :
    Calls Tryz.prog 15 #[v, .string x1] w (True_ w) := by
  obtain ⟨s, rfl⟩ := bytes_lst x1
  have hs : s.length ≤ 1048576 := by simpa using hs
  obtain ⟨a, c, hva, hc⟩ := SliceP.form h
  subst hva
  have hfw := fun w hE h => few13_c (.slice a xs.length c) xs s w hE h hN hs
  unfold FewRet13 at hfw
  have HI := Lib.hid h
  clear h hc hN
  generalize hnn : xs.length = m at *
  clear hnn
  go_enter Tryz.func15, Tryz.ntmps15
  go_wp2_with fail
  refine (awake13_c _ hE).mono ?_; rintro e w1 ⟨rfl, hb1⟩
  have hE1 := hE.below hb1
  go_wp2_with fail
  refine (hfw _ hE1 (HI.out.call hb1)).mono ?_; rintro e w2 ⟨b, rfl, hfew, hb2⟩
  have hz2 := below_trans hb1 hb2
  have hE2 := hE.below hz2
  clear hfw
  cases b with
  | false =>
    clear hfew
    go_wp2_with fail
    refine (awake13_c _ hE2).mono ?_; rintro e w9 ⟨rfl, hb9⟩
    go_wp2_with fail
    go_ret
    exact ⟨rfl, below_trans hz2 hb9⟩
  | true =>
  obtain ⟨hfit, hs3, hfine⟩ := hfew rfl
  have hs6 : s.length ≤ 1000000 := by omega
  clear hfew
  have hi2 := HI.out.call hz2
  have hp := step_c (.slice a m c) xs s w2 hE2 hi2 hfit hs6
  have hq := fun w hE h => refstep_c (.slice a m c) xs s w hE h hfit hs6
  unfold StepRet at hp hq
  generalize EnS.stepS xs s = R at *
  obtain ⟨n, more, code⟩ := R
  simp only at hp hq
  clear hfine
  go_wp2_with fail
  refine hp.mono ?_; rintro e w3 ⟨rfl, hb3⟩
  have hz3 := below_trans hz2 hb3
  go_wp2_with fail
  refine (hq _ (hE.below hz3) (HI.out.call hz3)).mono ?_; rintro e w4 ⟨rfl, hb4⟩
  have hz4 := below_trans hz3 hb4
  have hnn2 : (n == n) = true := beq_self_eq_true n
  have hnc : (code == code) = true := beq_self_eq_true code
  cases more with
  | false =>
    go_wp2_with fail
    go_ret
    exact ⟨rfl, hz4⟩
  | true =>
    go_wp2_with fail
    go_ret
    exact ⟨rfl, hz4⟩
set_option maxRecDepth 100000 in
set_option maxHeartbeats 4000000 in
theorem lawresolvefinds_c (v : Value) (xs : List EnS.En) (x1 : ByteArray) (follow : Bool) (w : World) (h : EnsIn w v xs) (hN : EnS.sumBy EnS.cE xs ≤ 1048576) (hs : x1.data.toList.length ≤ 1048576) (hE : Env w) :
    Calls Tryz.prog 16 #[v, .string x1, .bool follow] w (True_ w) := by
  obtain ⟨s, rfl⟩ := bytes_lst x1
  have hs : s.length ≤ 1048576 := by simpa using hs
  obtain ⟨a, c, hva, hc⟩ := SliceP.form h
  subst hva
  have hfw := fun w hE h => few13_c (.slice a xs.length c) xs s w hE h hN hs
  unfold FewRet13 at hfw
  have HI := Lib.hid h
  clear h hc hN
  generalize hnn : xs.length = m at *
  clear hnn
  go_enter Tryz.func16, Tryz.ntmps16
  go_wp2_with fail
  refine (awake13_c _ hE).mono ?_; rintro e w1 ⟨rfl, hb1⟩
  have hE1 := hE.below hb1
  go_wp2_with fail
  refine (hfw _ hE1 (HI.out.call hb1)).mono ?_; rintro e w2 ⟨b, rfl, hfew, hb2⟩
  have hz2 := below_trans hb1 hb2
  have hE2 := hE.below hz2
  clear hfw
  cases b with
  | false =>
    clear hfew
    go_wp2_with fail
    refine (awake13_c _ hE2).mono ?_; rintro e w9 ⟨rfl, hb9⟩
    go_wp2_with fail
    go_ret
    exact ⟨rfl, below_trans hz2 hb9⟩
  | true =>
  obtain ⟨hfit, hs3, hfine⟩ := hfew rfl
  have hs6 : s.length ≤ 1000000 := by omega
  clear hfew
  have hi2 := HI.out.call hz2
  have hp := find13_c (.slice a m c) xs s follow w2 hE2 hi2 hfit hs6
  have hq := fun w hE h => reffind_c (.slice a m c) xs s follow w hE h hfit hs6
  unfold StepRet at hp hq
  generalize EnS.findS xs s follow = R at *
  obtain ⟨n, more, code⟩ := R
  simp only at hp hq
  clear hfine
  go_wp2_with fail
  refine hp.mono ?_; rintro e w3 ⟨rfl, hb3⟩
  have hz3 := below_trans hz2 hb3
  go_wp2_with fail
  refine (hq _ (hE.below hz3) (HI.out.call hz3)).mono ?_; rintro e w4 ⟨rfl, hb4⟩
  have hz4 := below_trans hz3 hb4
  have hnn2 : (n == n) = true := beq_self_eq_true n
  have hnc : (code == code) = true := beq_self_eq_true code
  cases more with
  | false =>
    go_wp2_with fail
    go_ret
    exact ⟨rfl, hz4⟩
  | true =>
    go_wp2_with fail
    go_ret
    exact ⟨rfl, hz4⟩
set_option maxRecDepth 100000 in
set_option maxHeartbeats 4000000 in
theorem lawresolveends_c (v : Value) (xs : List EnS.En) (x1 : ByteArray) (w : World) (h : EnsIn w v xs) (hN : EnS.sumBy EnS.cE xs ≤ 1048576) (hs : x1.data.toList.length ≤ 1048576) (hE : Env w) :
    Calls Tryz.prog 17 #[v, .string x1] w (True_ w) := by
  obtain ⟨s, rfl⟩ := bytes_lst x1
  have hs : s.length ≤ 1048576 := by simpa using hs
  obtain ⟨a, c, hva, hc⟩ := SliceP.form h
  subst hva
  have hfw := fun w hE h => few13_c (.slice a xs.length c) xs s w hE h hN hs
  unfold FewRet13 at hfw
  have HI := Lib.hid h
  clear h hc hN
  generalize hnn : xs.length = m at *
  clear hnn
  go_enter Tryz.func17, Tryz.ntmps17
  go_wp2_with fail
  refine (awake13_c _ hE).mono ?_; rintro e w1 ⟨rfl, hb1⟩
  have hE1 := hE.below hb1
  go_wp2_with fail
  refine (hfw _ hE1 (HI.out.call hb1)).mono ?_; rintro e w2 ⟨b, rfl, hfew, hb2⟩
  have hz2 := below_trans hb1 hb2
  have hE2 := hE.below hz2
  clear hfw
  cases b with
  | false =>
    clear hfew
    go_wp2_with fail
    refine (awake13_c _ hE2).mono ?_; rintro e w9 ⟨rfl, hb9⟩
    go_wp2_with fail
    go_ret
    exact ⟨rfl, below_trans hz2 hb9⟩
  | true =>
  obtain ⟨hfit, hs3, hfine⟩ := hfew rfl
  have hs6 : s.length ≤ 1000000 := by omega
  clear hfew
  have hi2 := HI.out.call hz2
  have hp := find13_c (.slice a m c) xs s true w2 hE2 hi2 hfit hs6
  have hq := fun n w hE h hn => find13_c (.slice a m c) xs n true w hE h hfit hn
  have hat := fun n w hE h hn => at_c (.slice a m c) xs n w hE h hfit.1 hn
  have HEND := Lib.hid (fun h => EnS.find_ends (l := xs) (s := s) h)
  have HCODE := Lib.hid (fun h => EnS.find_code (l := xs) (s := s) (f := true) h)
  unfold StepRet at hp hq
  unfold IdxRetI at hat
  obtain ⟨n, moved, code, hR⟩ : ∃ n moved code, EnS.findS xs s true = (n, moved, code) := ⟨_, _, _, rfl⟩
  rw [hR] at hp HEND HCODE
  simp only at hp HEND HCODE
  clear hfine hR
  by_cases hc0 : code = 0
  case neg =>
    have hez : (code != 0) = true := by simpa using hc0
    have hn0 := HCODE.out hc0
    subst hn0
    clear HEND HCODE
    go_wp2_with fail
    refine hp.mono ?_; rintro e w3 ⟨rfl, hb3⟩
    go_wp2_with fail
    go_ret
    exact ⟨rfl, below_trans hz2 hb3⟩
  subst hc0
  obtain ⟨hnn, hin, hag⟩ := HEND.out rfl
  have hnl : n.length ≤ 1000000 := by have := DnS.norm_len n; rw [hnn] at this; exact Nat.le_trans this (by decide)
  have HAI := Lib.hid (at_in (xs := xs) hnn)
  have hat1 := fun w hE h => hat n w hE h hnl
  have hq1 := fun w hE h => hq n w hE h hnl
  rw [hag] at hq1
  simp only at hq1
  have HIH := Lib.hid (idx_has (atI xs n))
  generalize atI xs n = I at *
  generalize idxI I = z at *
  have hne : (n == n) = true := beq_self_eq_true n
  clear HEND HCODE hq hat hag hnn
  by_cases hn0 : n = []
  · subst hn0
    clear hin
    go_wp2_with fail
    refine hp.mono ?_; rintro e w3 ⟨rfl, hb3⟩
    have hz3 := below_trans hz2 hb3
    go_wp2_with fail
    refine (hat1 _ (hE.below hz3) (HI.out.call hz3)).mono ?_; rintro e w4 ⟨rfl, hb4⟩
    have hz4 := below_trans hz3 hb4
    go_wp2_with fail
    refine (hq1 _ (hE.below hz4) (HI.out.call hz4)).mono ?_; rintro e w5 ⟨rfl, hb5⟩
    go_wp2_with fail
    go_ret
    exact ⟨rfl, below_trans hz4 hb5⟩
  · have hn1 : n.isEmpty = false := by simpa using hn0
    have hn2 : (n == []) = false := by simpa using hn0
    have hn3 : (n != []) = true := by simpa using hn0
    have hzz : decide (z < 0) = false := by
      have h1 : decide (0 ≤ z) = true := HIH.out.trans (HAI.out.trans (hin.elim (fun h => absurd h hn0) id))
      have := of_decide_eq_true h1
      exact decide_eq_false (by omega)
    clear hin hn0 HAI HIH
    go_wp2_with fail
    refine hp.mono ?_; rintro e w3 ⟨rfl, hb3⟩
    have hz3 := below_trans hz2 hb3
    go_wp2_with fail
    refine (hat1 _ (hE.below hz3) (HI.out.call hz3)).mono ?_; rintro e w4 ⟨rfl, hb4⟩
    have hz4 := below_trans hz3 hb4
    go_wp2_with fail
    refine (hq1 _ (hE.below hz4) (HI.out.call hz4)).mono ?_; rintro e w5 ⟨rfl, hb5⟩
    go_wp2_with fail
    go_ret
    exact ⟨rfl, below_trans hz4 hb5⟩
set_option maxRecDepth 100000 in
set_option maxHeartbeats 4000000 in
theorem lawresolveplain_c (v : Value) (xs : List EnS.En) (x1 : ByteArray) (w : World) (h : EnsIn w v xs) (hN : EnS.sumBy EnS.cE xs ≤ 1048576) (hs : x1.data.toList.length ≤ 1048576) (hE : Env w) :
    Calls Tryz.prog 18 #[v, .string x1] w (True_ w) := by
  obtain ⟨s, rfl⟩ := bytes_lst x1
  have hs : s.length ≤ 1048576 := by simpa using hs
  obtain ⟨a, c, hva, hc⟩ := SliceP.form h
  subst hva
  have hfw := fun w hE h => few13_c (.slice a xs.length c) xs s w hE h hN hs
  unfold FewRet13 at hfw
  have HI := Lib.hid h
  clear h hc hN
  generalize hnn : xs.length = m at hfw ⊢
  have HM := Lib.hid hnn
  have HI2 := HI
  rw [hnn] at HI
  clear hnn
  go_enter Tryz.func18, Tryz.ntmps18
  go_wp2_with fail
  refine (awake13_c _ hE).mono ?_; rintro e w1 ⟨rfl, hb1⟩
  have hE1 := hE.below hb1
  go_wp2_with fail
  refine (hfw _ hE1 (HI.out.call hb1)).mono ?_; rintro e w2 ⟨b, rfl, hfew, hb2⟩
  have hz2 := below_trans hb1 hb2
  have hE2 := hE.below hz2
  clear hfw
  cases b with
  | false =>
    clear hfew
    go_wp2_with fail
    refine (awake13_c _ hE2).mono ?_; rintro e w9 ⟨rfl, hb9⟩
    go_wp2_with fail
    go_ret
    exact ⟨rfl, below_trans hz2 hb9⟩
  | true =>
  obtain ⟨hfit, hs3, hfine⟩ := hfew rfl
  have hs6 : s.length ≤ 1000000 := by omega
  clear hfew
  have hi2 := HI.out.call hz2
  have hnm := rnnormal_c s hs6 w2 hE2
  have hnlen := DnS.norm_len s
  have hp := fun w hE h => find13_c (.slice a m c) xs s false w hE h hfit hs6
  have hq := fun w hE h => find13_c (.slice a m c) xs s true w hE h hfit hs6
  have hat := fun n w hE h hn => at_c (.slice a m c) xs n w hE h hfit.1 hn
  have HST := Lib.hid (fun h => EnS.find_still (l := xs) (s := s) h)
  have HBD := Lib.hid (fun n e => EnS.find_bad (l := xs) (s := s) (n := n) (e := e) (f := false))
  have HPL := Lib.hid (fun h => EnS.find_plain (l := xs) h (s := s))
  have HNN := Lib.hid (fun h => DnS.norm_norm (s := s) h)
  unfold NmTxt at hnm
  unfold StepRet at hp hq
  unfold IdxRetI at hat
  have HTB : Hid (∀ e, (DnS.normN s).2 = e → e ≠ 0 → (DnS.normN s).1 = []) := Lib.hid (fun e h he => by
    unfold DnS.normN
    rw [DnS.texts_bad (by show (DnS.normN s).2 ≠ 0; rw [h]; exact he)]; rfl)
  obtain ⟨q, e0, hQ⟩ : ∃ q e0, DnS.normN s = (q, e0) := ⟨_, _, rfl⟩
  obtain ⟨n, moved, code, hR⟩ : ∃ n moved code, EnS.findS xs s false = (n, moved, code) := ⟨_, _, _, rfl⟩
  rw [hQ] at hnm hnlen HST HNN HTB
  rw [hR] at hp HST HPL
  simp only at hnm hnlen hp HST HNN HTB
  by_cases he : e0 = 0
  case neg =>
    have hez : (e0 != 0) = true := by simpa using he
    have h34 : (n, moved, code) = ([], false, 34) := hR.symm.trans (HBD.out q e0 hQ he)
    have hq0 := HTB.out e0 rfl he
    simp only [Prod.mk.injEq] at h34
    obtain ⟨rfl, rfl, rfl⟩ := h34
    subst hq0
    clear HST HBD HPL HNN HTB hQ hR hfine hfit hq hat he
    go_wp2_with fail
    refine hnm.mono ?_; rintro e w3 ⟨rfl, hb3⟩
    have hz3 := below_trans hz2 hb3
    go_wp2_with fail
    refine (hp _ (hE.below hz3) (HI.out.call hz3)).mono ?_; rintro e w4 ⟨rfl, hb4⟩
    go_wp2_with fail
    go_ret
    exact ⟨rfl, below_trans hz3 hb4⟩
  subst he
  obtain ⟨s1, s2, s3, s4⟩ := HST.out rfl
  subst s1
  have HNQ := HNN.out rfl
  have HAI := Lib.hid (at_in (xs := xs) HNQ)
  have hat1 := fun w hE h => hat q w hE h (by omega)
  have HIH := Lib.hid (idx_has (atI xs q))
  generalize atI xs q = I at *
  generalize idxI I = z at *
  clear HST HBD HNN HTB hQ hR hat HNQ
  have HFX := Lib.hid (fun k (h : k < xs.length) => (hfit.2 xs[k] (List.getElem_mem h)).2)
  have hst2 : (q == []) = q.isEmpty := by cases q <;> rfl
  have hml : m ≤ 1048576 := by rw [← HM.out]; exact hfit.1
  obtain ⟨a0, c0, e0, hc0, hat0⟩ := SliceP.at HI2.out
  cases e0
  have HAT := Lib.hid hat0
  clear hat0
  by_cases hq0 : q = []
  · subst hq0
    have hcode : code = 0 := by
      have h := s4
      simp at h
      exact h
    subst hcode
    have hn := s2 rfl
    subst hn
    clear s2 s3 s4 HAI HIH hat1
    go_wp2_with fail
    refine hnm.mono ?_; rintro e w3 ⟨rfl, hb3⟩
    have hz3 := below_trans hz2 hb3
    go_wp2_with fail
    refine (hp _ (hE.below hz3) (HI.out.call hz3)).mono ?_; rintro e w4 ⟨rfl, hb4⟩
    have hz4 := below_trans hz3 hb4
    go_wp2_with fail
    go_loopw [75] (fun i wr => ∃ k : Nat, k ≤ m ∧ i = .int .i64 k ∧ Hid (∀ x ∈ xs.take k, (EnS.aliasS x).2 = false) ∧ Below w.heap.size w wr) (fun i _ => m - (intOf i).toNat)
    case atStart => exact ⟨0, Nat.zero_le _, rfl, Lib.hid (fun x hx => by cases hx), hz4⟩
    case round =>
      obtain ⟨k, hk, rfl, HA, hb⟩ := hrel
      by_cases hlt : k < m
      · have hlt2 : k < xs.length := by rw [HM.out]; exact hlt
        obtain ⟨g, o, rfl, hg, _, hra⟩ := HAT.out k hlt2
        obtain ⟨c1, a1, p1, c2, hp1, hattrs⟩ := EnAt.parts (EnAt.call hra hg trivial hb)
        have hfa := HFX.out k hlt2
        have HTK := Lib.hid (take_miss (p := fun x => (EnS.aliasS x).2) hlt2 HA.out)
        clear hra
        generalize xs[k] = x at *
        clear hlt2
        obtain ⟨name, attrs⟩ := x
        simp only at c1 c2 hp1 hattrs hfa HTK
        have hal := refalias_c name attrs _ wr (hE.below hb) hattrs hfa
        unfold NmPar at hal
        clear hattrs hfa
        generalize EnS.aliasS ⟨name, attrs⟩ = AL at *
        obtain ⟨tg, al⟩ := AL
        simp only at hal HTK
        generalize attrs.length = n1 at *
        cases al with
        | true =>
          go_wp2_with fail
          refine hal.mono ?_; rintro e w6 ⟨rfl, hb6⟩
          go_wp2_with fail
          go_ret
          exact ⟨rfl, hb.trans (hb6.mono hb.size)⟩
        | false =>
          have HZ := Lib.hid (HTK.out rfl)
          go_wp2_with fail
          refine hal.mono ?_; rintro e w6 ⟨rfl, hb6⟩
          go_wp2_with fail
          go_roundw
          case rel => exact ⟨k + 1, by omega, by go_num, HZ, hb.trans (hb6.mono hb.size)⟩
          case measure => simp [intOf]; omega
      · have heq := HPL.out (by have := HA.out; rwa [List.take_of_length_le (by rw [HM.out]; omega)] at this)
        rw [heq] at hq
        simp only at hq
        clear heq HPL
        go_wp2_with fail
        refine (hq _ (hE.below hb) (HI.out.call hb)).mono ?_; rintro e w6 ⟨rfl, hb6⟩
        have hnn1 : ∀ l : List UInt8, (l == l) = true := fun l => beq_self_eq_true l
        go_wp2_with fail
        go_ret
        exact ⟨rfl, hb.trans (hb6.mono hb.size)⟩
  · have hq1 : q.isEmpty = false := by simpa using hq0
    have hq2 : (q == []) = false := by simpa using hq0
    by_cases hcode : code = 0
    · have hin : EnS.inS xs q = true := by
        rw [hcode, hq2] at s4
        simpa using s4.symm
      have hzz : decide (0 ≤ z) = true := HIH.out.trans (HAI.out.trans hin)
      have hn := s2 hcode
      subst hcode
      subst hn
      have hnn1 : (n == n) = true := beq_self_eq_true n
      have hnn2 : (n != n) = false := by simp
      clear s2 s3 s4 HAI HIH hin
      go_wp2_with fail
      refine hnm.mono ?_; rintro e w3 ⟨rfl, hb3⟩
      have hz3 := below_trans hz2 hb3
      go_wp2_with fail
      refine (hp _ (hE.below hz3) (HI.out.call hz3)).mono ?_; rintro e w4 ⟨rfl, hb4⟩
      have hz4 := below_trans hz3 hb4
      go_wp2_with fail
      refine (hat1 _ (hE.below hz4) (HI.out.call hz4)).mono ?_; rintro e w5 ⟨rfl, hb5⟩
      have hz5 := below_trans hz4 hb5
      go_wp2_with fail
      go_loopw [75] (fun i wr => ∃ k : Nat, k ≤ m ∧ i = .int .i64 k ∧ Hid (∀ x ∈ xs.take k, (EnS.aliasS x).2 = false) ∧ Below w.heap.size w wr) (fun i _ => m - (intOf i).toNat)
      case atStart => exact ⟨0, Nat.zero_le _, rfl, Lib.hid (fun x hx => by cases hx), hz5⟩
      case round =>
        obtain ⟨k, hk, rfl, HA, hb⟩ := hrel
        by_cases hlt : k < m
        · have hlt2 : k < xs.length := by rw [HM.out]; exact hlt
          obtain ⟨g, o, rfl, hg, _, hra⟩ := HAT.out k hlt2
          obtain ⟨c1, a1, p1, c2, hp1, hattrs⟩ := EnAt.parts (EnAt.call hra hg trivial hb)
          have hfa := HFX.out k hlt2
          have HTK := Lib.hid (take_miss (p := fun x => (EnS.aliasS x).2) hlt2 HA.out)
          clear hra
          generalize xs[k] = x at *
          clear hlt2
          obtain ⟨name, attrs⟩ := x
          simp only at c1 c2 hp1 hattrs hfa HTK
          have hal := refalias_c name attrs _ wr (hE.below hb) hattrs hfa
          unfold NmPar at hal
          clear hattrs hfa
          generalize EnS.aliasS ⟨name, attrs⟩ = AL at *
          obtain ⟨tg, al⟩ := AL
          simp only at hal HTK
          generalize attrs.length = n1 at *
          cases al with
          | true =>
            go_wp2_with fail
            refine hal.mono ?_; rintro e w6 ⟨rfl, hb6⟩
            go_wp2_with fail
            go_ret
            exact ⟨rfl, hb.trans (hb6.mono hb.size)⟩
          | false =>
            have HZ := Lib.hid (HTK.out rfl)
            go_wp2_with fail
            refine hal.mono ?_; rintro e w6 ⟨rfl, hb6⟩
            go_wp2_with fail
            go_roundw
            case rel => exact ⟨k + 1, by omega, by go_num, HZ, hb.trans (hb6.mono hb.size)⟩
            case measure => simp [intOf]; omega
        · have heq := HPL.out (by have := HA.out; rwa [List.take_of_length_le (by rw [HM.out]; omega)] at this)
          rw [heq] at hq
          simp only at hq
          clear heq HPL
          go_wp2_with fail
          refine (hq _ (hE.below hb) (HI.out.call hb)).mono ?_; rintro e w6 ⟨rfl, hb6⟩
          have hnn1 : ∀ l : List UInt8, (l == l) = true := fun l => beq_self_eq_true l
          go_wp2_with fail
          go_ret
          exact ⟨rfl, hb.trans (hb6.mono hb.size)⟩
    · have hin : EnS.inS xs q = false := by
        rw [decide_eq_false hcode, hq2] at s4
        simpa using s4.symm
      have hzz : decide (0 ≤ z) = false := HIH.out.trans (HAI.out.trans hin)
      have hc32 := s3 hcode
      subst hc32
      clear s2 s3 s4 HAI HIH hin hcode
      go_wp2_with fail
      refine hnm.mono ?_; rintro e w3 ⟨rfl, hb3⟩
      have hz3 := below_trans hz2 hb3
      go_wp2_with fail
      refine (hp _ (hE.below hz3) (HI.out.call hz3)).mono ?_; rintro e w4 ⟨rfl, hb4⟩
      have hz4 := below_trans hz3 hb4
      go_wp2_with fail
      refine (hat1 _ (hE.below hz4) (HI.out.call hz4)).mono ?_; rintro e w5 ⟨rfl, hb5⟩
      have hz5 := below_trans hz4 hb5
      go_wp2_with fail
      go_loopw [75] (fun i wr => ∃ k : Nat, k ≤ m ∧ i = .int .i64 k ∧ Hid (∀ x ∈ xs.take k, (EnS.aliasS x).2 = false) ∧ Below w.heap.size w wr) (fun i _ => m - (intOf i).toNat)
      case atStart => exact ⟨0, Nat.zero_le _, rfl, Lib.hid (fun x hx => by cases hx), hz5⟩
      case round =>
        obtain ⟨k, hk, rfl, HA, hb⟩ := hrel
        by_cases hlt : k < m
        · have hlt2 : k < xs.length := by rw [HM.out]; exact hlt
          obtain ⟨g, o, rfl, hg, _, hra⟩ := HAT.out k hlt2
          obtain ⟨c1, a1, p1, c2, hp1, hattrs⟩ := EnAt.parts (EnAt.call hra hg trivial hb)
          have hfa := HFX.out k hlt2
          have HTK := Lib.hid (take_miss (p := fun x => (EnS.aliasS x).2) hlt2 HA.out)
          clear hra
          generalize xs[k] = x at *
          clear hlt2
          obtain ⟨name, attrs⟩ := x
          simp only at c1 c2 hp1 hattrs hfa HTK
          have hal := refalias_c name attrs _ wr (hE.below hb) hattrs hfa
          unfold NmPar at hal
          clear hattrs hfa
          generalize EnS.aliasS ⟨name, attrs⟩ = AL at *
          obtain ⟨tg, al⟩ := AL
          simp only at hal HTK
          generalize attrs.length = n1 at *
          cases al with
          | true =>
            go_wp2_with fail
            refine hal.mono ?_; rintro e w6 ⟨rfl, hb6⟩
            go_wp2_with fail
            go_ret
            exact ⟨rfl, hb.trans (hb6.mono hb.size)⟩
          | false =>
            have HZ := Lib.hid (HTK.out rfl)
            go_wp2_with fail
            refine hal.mono ?_; rintro e w6 ⟨rfl, hb6⟩
            go_wp2_with fail
            go_roundw
            case rel => exact ⟨k + 1, by omega, by go_num, HZ, hb.trans (hb6.mono hb.size)⟩
            case measure => simp [intOf]; omega
        · have heq := HPL.out (by have := HA.out; rwa [List.take_of_length_le (by rw [HM.out]; omega)] at this)
          rw [heq] at hq
          simp only at hq
          clear heq HPL
          go_wp2_with fail
          refine (hq _ (hE.below hb) (HI.out.call hb)).mono ?_; rintro e w6 ⟨rfl, hb6⟩
          have hnn1 : ∀ l : List UInt8, (l == l) = true := fun l => beq_self_eq_true l
          go_wp2_with fail
          go_ret
          exact ⟨rfl, hb.trans (hb6.mono hb.size)⟩
end Go.Proofs.YtadhkemdndcjlaaGreatDoor
