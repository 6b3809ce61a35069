/- The walks of the laws ResolveSteps, ResolveFinds, ResolveEnds, and of their helpers. Conditions: the entries that come in are of bulk at most 1048576; the library's variables are laid. The walks of the laws ResolveSteps, ResolveFinds, ResolveEnds, ResolvePlain. Conditions: what comes in is of bulk at most 1048576; the library's variables are laid. -/
import Derived.Test.YtifjghkgmfmneaaGreatDoorReu
namespace Go.Proofs.YtifjghkgmfmneaaGreatDoor
open Go.RowKit

theorem bytes_lst (x : ByteArray) : ∃ l : List UInt8, x = ⟨l.toArray⟩ := ⟨x.data.toList, by cases x; simp⟩
/-! lists that are laid anew -/
theorem strs_lit {w : World} {g : Nat} {T : TypeId} {cs : Array Value} {ok : Nat → Prop} (hw : Whole w g T cs) (hok : ok g) {xs : List (List UInt8)} {n : Nat} (hn : xs.length = n) (h : ∀ (j : Nat) (x : List UInt8), xs[j]? = some x → cs[j]? = some (strV x)) :
    StrsP ok w (.slice (some ⟨g, 0, none⟩) n n) xs := by
  subst hn
  refine ⟨_, _, rfl, Nat.le_refl _, .inr ⟨g, 0, rfl, hw.lt, hok, fun j x hj => ?_⟩⟩
  show w.cell? ⟨g, 0 + j * 1, none⟩ = _
  rw [Nat.zero_add, Nat.mul_one, hw.cell]
  exact h j x hj
theorem attrs_lit {w : World} {g : Nat} {T : TypeId} {cs : Array Value} {ok : Nat → Prop} (hw : Whole w g T cs) (hok : ok g) {xs : List EnS.At} {n : Nat} (hn : xs.length = n)
    (h : ∀ (j : Nat) (x : EnS.At), xs[j]? = some x → cs[j * 2]? = some (strV x.typ) ∧ ∃ u, cs[j * 2 + 1]? = some u ∧ StrsP ok w u x.vals) : AttrsP ok w (.slice (some ⟨g, 0, none⟩) n n) xs := by
  subst hn
  refine ⟨_, _, rfl, Nat.le_refl _, .inr ⟨g, 0, rfl, hw.lt, hok, fun j x hj => ?_⟩⟩
  obtain ⟨h1, u, h2, h3⟩ := h j x hj
  rw [Nat.zero_add]
  exact ⟨(hw.cell _).trans h1, u, (hw.cell _).trans h2, h3⟩
theorem ens_lit {w : World} {g : Nat} {T : TypeId} {cs : Array Value} {ok : Nat → Prop} (hw : Whole w g T cs) (hok : ok g) {xs : List EnS.En} {n : Nat} (hn : xs.length = n)
    (h : ∀ (j : Nat) (x : EnS.En), xs[j]? = some x → cs[j * 2]? = some (strV x.name) ∧ ∃ u, cs[j * 2 + 1]? = some u ∧ AttrsP ok w u x.attrs) : EnsP ok w (.slice (some ⟨g, 0, none⟩) n n) xs := by
  subst hn
  refine ⟨_, _, rfl, Nat.le_refl _, .inr ⟨g, 0, rfl, hw.lt, hok, fun j x hj => ?_⟩⟩
  obtain ⟨h1, u, h2, h3⟩ := h j x hj
  rw [Nat.zero_add]
  exact ⟨(hw.cell _).trans h1, u, (hw.cell _).trans h2, h3⟩
theorem alloc_size (w : World) (o : Obj) : (w.alloc o).heap.size = w.heap.size + 1 := by
  show (w.heap.push _).size = _
  simp
/-- two attributes of one value each, laid anew: the blocks from the world's end on -/
theorem two_attrs (w : World) (t1 v1 t2 v2 : List UInt8) : ∃ W, W = ((w.alloc (.cells #[strV v1] 9)).alloc (.cells #[strV v2] 9)).alloc (.cells #[strV t1, .slice (some ⟨w.heap.size, 0, none⟩) 1 1, strV t2, .slice (some ⟨w.heap.size + 1, 0, none⟩) 1 1] 47) ∧
    W.heap.size = w.heap.size + 3 ∧ Below w.heap.size w W ∧ AttrsP (fun g => w.heap.size ≤ g) W (.slice (some ⟨w.heap.size + 2, 0, none⟩) 2 2) [⟨t1, [v1]⟩, ⟨t2, [v2]⟩] := by
  refine ⟨_, rfl, ?_, ?_, ?_⟩
  · rw [alloc_size, alloc_size, alloc_size]
  · exact below_alloc (below_alloc (grow1 w _) _) _
  · have a1 := Whole.made w 9 #[strV v1]
    have a2 := Whole.made (w.alloc (.cells #[strV v1] 9)) 9 #[strV v2]
    rw [alloc_size] at a2
    have a3 := Whole.made ((w.alloc (.cells #[strV v1] 9)).alloc (.cells #[strV v2] 9)) 47 #[strV t1, .slice (some ⟨w.heap.size, 0, none⟩) 1 1, strV t2, .slice (some ⟨w.heap.size + 1, 0, none⟩) 1 1]
    rw [alloc_size, alloc_size] at a3
    have b1 := (a1.call (grow1 _ (.cells #[strV v2] 9))).call (grow1 _ (.cells #[strV t1, .slice (some ⟨w.heap.size, 0, none⟩) 1 1, strV t2, .slice (some ⟨w.heap.size + 1, 0, none⟩) 1 1] 47))
    have b2 := a2.call (grow1 _ (.cells #[strV t1, .slice (some ⟨w.heap.size, 0, none⟩) 1 1, strV t2, .slice (some ⟨w.heap.size + 1, 0, none⟩) 1 1] 47))
    refine attrs_lit (ok := fun g => w.heap.size ≤ g) (xs := [⟨t1, [v1]⟩, ⟨t2, [v2]⟩]) a3 (show w.heap.size ≤ w.heap.size + 1 + 1 by omega) rfl (fun j x hj => ?_)
    match j, hj with
    | 0, hj =>
      have := Option.some.inj hj; subst this
      exact ⟨rfl, _, rfl, strs_lit b1 (Nat.le_refl _) rfl (fun j x hj => by
        match j, hj with
        | 0, hj => have := Option.some.inj hj; subst this; rfl
        | j + 1, hj => simp at hj)⟩
    | 1, hj =>
      have := Option.some.inj hj; subst this
      exact ⟨rfl, _, rfl, strs_lit b2 (Nat.le_succ _) rfl (fun j x hj => by
        match j, hj with
        | 0, hj => have := Option.some.inj hj; subst this; rfl
        | j + 1, hj => simp at hj)⟩
    | j + 2, hj => simp at hj
def awakeE : List EnS.En := [⟨[99, 110, 61, 97, 108], [⟨EnS.tTarget, [[79, 85, 61, 98]]⟩, ⟨EnS.tClass, [EnS.tAlias]⟩]⟩, ⟨[99, 110, 61, 120, 44, 111, 117, 61, 98], []⟩]
theorem awake13_is : EnS.findS awakeE [67, 78, 61, 120, 44, 99, 110, 61, 97, 108] true = ([99, 110, 61, 120, 44, 111, 117, 61, 98], true, 0) := by decide +kernel
theorem awake13_fit : FitE awakeE := by
  unfold FitE awakeE FitA
  refine ⟨by decide, fun x hx => ?_⟩
  simp only [List.mem_cons, List.not_mem_nil, or_false] at hx
  rcases hx with rfl | rfl
  · refine ⟨by decide, by decide, fun y hy => ?_⟩
    simp only [List.mem_cons, List.not_mem_nil, or_false] at hy
    rcases hy with rfl | rfl
    · refine ⟨by decide, fun v hv => ?_⟩
      simp only [List.mem_cons, List.not_mem_nil, or_false] at hv
      subst hv; decide
    · refine ⟨by decide, fun v hv => ?_⟩
      simp only [List.mem_cons, List.not_mem_nil, or_false] at hv
      subst hv; decide
  · exact ⟨by decide, by decide, fun y hy => by cases hy⟩
set_option maxRecDepth 100000 in
set_option maxHeartbeats 1000000 in
theorem awake13_c (w : World) (hE : Env w) : Calls Tryz.prog 32 #[] w (True_ w) := by
  obtain ⟨W, hW, hsz, hb, hA⟩ := two_attrs w EnS.tTarget [79, 85, 61, 98] EnS.tClass EnS.tAlias
  have hb2 := grow1 W (.cells #[strV [99, 110, 61, 97, 108], .slice (some ⟨w.heap.size + 2, 0, none⟩) 2 2, strV [99, 110, 61, 120, 44, 111, 117, 61, 98], .slice none 0 0] 37)
  have hw2 := Whole.made W 37 #[strV [99, 110, 61, 97, 108], .slice (some ⟨w.heap.size + 2, 0, none⟩) 2 2, strV [99, 110, 61, 120, 44, 111, 117, 61, 98], .slice none 0 0]
  rw [hsz] at hw2
  have hA2 := hA.any.call hb2
  have hens : EnsIn (W.alloc (.cells #[strV [99, 110, 61, 97, 108], .slice (some ⟨w.heap.size + 2, 0, none⟩) 2 2, strV [99, 110, 61, 120, 44, 111, 117, 61, 98], .slice none 0 0] 37)) (.slice (some ⟨w.heap.size + 3, 0, none⟩) 2 2) awakeE := by
    refine ens_lit hw2 trivial rfl (fun j x hj => ?_)
    unfold awakeE at hj
    match j, hj with
    | 0, hj => have := Option.some.inj hj; subst this; exact ⟨rfl, _, rfl, hA2⟩
    | 1, hj => have := Option.some.inj hj; subst this; exact ⟨rfl, _, rfl, SliceP.nil _ _⟩
    | j + 2, hj => simp at hj
  have hz := below_trans hb hb2
  have hf := find13_c _ awakeE [67, 78, 61, 120, 44, 99, 110, 61, 97, 108] true _ (hE.below hz) hens awake13_fit (by decide)
  unfold StepRet at hf
  rw [awake13_is] at hf
  subst hW
  unfold strV EnS.tTarget EnS.tClass EnS.tAlias at hf hz
  simp only at hf hz
  clear hens hw2 hA hA2 hb hb2 hsz
  go_enter Tryz.func32, Tryz.ntmps32
  go_wp2_with fail
  refine hf.mono ?_; rintro e w1 ⟨rfl, hb1⟩
  go_wp2_with fail
  go_ret
  exact ⟨rfl, below_trans hz hb1⟩

/-- of a size that is looked at, and of normal names -/
def FineE (xs : List EnS.En) : Prop := ∀ x ∈ xs, DnS.normN x.name = (x.name, 0) ∧ x.name ≠ []
theorem cost_fit {xs : List EnS.En} (h : EnS.sumBy EnS.cE xs ≤ 3000) : FitE xs := by
  refine ⟨Nat.le_trans (cost_len xs) (by omega), fun x hx => ?_⟩
  have h1 := EnS.sumBy_mem (f := EnS.cE) hx
  have h2 : EnS.cE x = 1 + x.name.length / 100 + EnS.sumBy EnS.cA x.attrs := rfl
  refine ⟨by omega, Nat.le_trans (cost_attrs x.attrs) (by omega), fun y hy => ?_⟩
  have h3 := EnS.sumBy_mem (f := EnS.cA) hy
  have h4 : EnS.cA y = 1 + y.vals.length + EnS.sumBy EnS.cV y.vals := rfl
  refine ⟨by omega, fun v hv => ?_⟩
  have h5 := EnS.sumBy_mem (f := EnS.cV) hv
  have h6 : EnS.cV v = v.length / 100 := rfl
  omega
def FewRet13 (xs : List EnS.En) (s : List UInt8) (w : World) (e : Ending) (w' : World) : Prop := ∃ b, e = .returned (.bool b) ∧ (b = true → FitE xs ∧ s.length ≤ 3000 ∧ FineE xs) ∧ Below w.heap.size w w'
end Go.Proofs.YtifjghkgmfmneaaGreatDoor
namespace Go.Proofs.YtifjghkgmfmneaaGreatDoor
open Go.RowKit

end Go.Proofs.YtifjghkgmfmneaaGreatDoor
