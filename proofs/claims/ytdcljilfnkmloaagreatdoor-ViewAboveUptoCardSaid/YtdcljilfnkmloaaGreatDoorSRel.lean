/- The walks of a step of following aliases, the program's and the document's. Conditions: at most 1048576 entries, each of at most as many attributes and values, names and values of at most 1000000 bytes; the library's variables are laid. The walks of a trail of names, of 'In' and 'At', and of finding a name, the program's. Conditions: those that each theorem states; the library's variables are laid. The walks of finding a name, the program's and the document's, and of 'At'. Conditions: at most 1048576 entries, each of at most as many attributes and values, names and values of at most 1000000 bytes; the library's variables are laid. The walks of the laws ResolveSteps, ResolveFinds, ResolveEnds, and of their helpers. Conditions: the entries that come in are of bulk at most 1048576; the library's variables are laid. The walks of the laws ResolveSteps, ResolveFinds, ResolveEnds, ResolvePlain. Conditions: what comes in is of bulk at most 1048576; the library's variables are laid. -/
import Derived.BigQuiet
import Derived.OneCell
import Derived.Lib.SlicesS
import Derived.Test.YtdcljilfnkmloaaGreatDoorSEna
namespace Go.Proofs.YtdcljilfnkmloaaGreatDoor
open Go.RowKit

/-- entries of a size that can be looked at -/
def FitE (xs : List EnS.En) : Prop := xs.length ≤ 1048576 ∧ ∀ x ∈ xs, x.name.length ≤ 1000000 ∧ FitA x.attrs
def StepRet (r : List UInt8 × Bool × Int) (w : World) (e : Ending) (w' : World) : Prop := e = .returned (.tuple #[.string ⟨r.1.toArray⟩, .bool r.2.1, .int .i64 r.2.2]) ∧ Below w.heap.size w w'
theorem StepRet.mk' {r q : List UInt8 × Bool × Int} {w w' : World} (h : r = q) (hb : Below w.heap.size w w') : StepRet r w (.returned (.tuple #[.string ⟨q.1.toArray⟩, .bool q.2.1, .int .i64 q.2.2])) w' := by subst h; exact ⟨rfl, hb⟩
end Go.Proofs.YtdcljilfnkmloaaGreatDoor
namespace Go.Proofs.YtdcljilfnkmloaaGreatDoor
open Go.RowKit

/-! is a name in a list? -/
def isNm (n : List UInt8) (e : EnS.En) : Bool := e.name == n
end Go.Proofs.YtdcljilfnkmloaaGreatDoor
namespace Go.Proofs.YtdcljilfnkmloaaGreatDoor
open Go.RowKit

def lenOfV (v : Value) : Nat := match v with | .slice _ n _ => n | _ => 0
theorem Own.lenOf {w : World} {B : Nat} {v : Value} {xs : List (List UInt8)} (h : Own w B v xs) : lenOfV v = xs.length := by
  obtain ⟨a, c, rfl⟩ := h.form
  rfl
theorem Own.one (w : World) (l : List UInt8) : Own (w.alloc (.cells #[.string ⟨l.toArray⟩] 9)) w.heap.size (.slice (some ⟨w.heap.size, 0, none⟩) 1 1) [l] :=
  ⟨rfl, .inr ⟨w.heap.size, 1, #[.string ⟨l.toArray⟩], rfl, Nat.le_refl _, heap_alloc_new w _, Nat.le_refl _, by unfold maxLen; omega, rfl, rfl⟩⟩
/-- where a name is -/
def atI (xs : List EnS.En) (s : List UInt8) : Option Nat := if (DnS.normN s).2 = 0 then xs.findIdx? (isNm (DnS.normN s).1) else none
theorem at_in {xs : List EnS.En} {n : List UInt8} (h : DnS.normN n = (n, 0)) : (atI xs n).isSome = EnS.inS xs n := by
  unfold atI
  rw [h, if_pos rfl, List.findIdx?_isSome]
  rfl
set_option maxRecDepth 100000 in
set_option maxHeartbeats 1000000 in
theorem at_c (v : Value) (xs : List EnS.En) (s : List UInt8) (w : World) (hE : Env w) (h : EnsIn w v xs) (hl : xs.length ≤ 1048576) (hs : s.length ≤ 1000000) :
    Calls Tryz.prog 20 #[v, .string ⟨s.toArray⟩] w (IdxRetI (atI xs s) w) := by
  have h1 := rnnormal_c s hs w hE
  unfold NmTxt at h1
  have HR0 : Hid (atI xs s = if (DnS.normN s).2 = 0 then xs.findIdx? (isNm (DnS.normN s).1) else none) := Lib.hid rfl
  generalize atI xs s = R at *
  generalize DnS.normN s = N at *
  obtain ⟨n, e0⟩ := N
  simp only at h1 HR0
  obtain ⟨a, c, rfl, hc, hat⟩ := SliceP.at h
  have HAT := Lib.hid hat
  have HFND := Lib.hid (fun k (hk : k < xs.length) => idx_found (p := isNm n) hk)
  have HNON := Lib.hid (idx_none (p := isNm n) (xs := xs))
  have HTM := Lib.hid (fun k (hk : k < xs.length) => take_miss (p := isNm n) hk)
  have HP : Hid (∀ e : EnS.En, isNm n e = (e.name == n)) := Lib.hid (fun _ => rfl)
  generalize xs.findIdx? (isNm n) = I at *
  generalize isNm n = q at *
  clear hat h
  generalize hnn : xs.length = m at hc hl ⊢
  have HN := Lib.hid hnn
  clear hnn
  by_cases he : e0 = 0
  · subst he
    have HR : Hid (R = I) := Lib.hid (HR0.out.trans (if_pos rfl))
    clear HR0
    go_enter Tryz.func20, Tryz.ntmps20
    go_wp2_with fail
    refine h1.mono ?_; rintro e w1 ⟨rfl, hb1⟩
    go_wp2_with fail
    go_loop [15] (fun i => ∃ k : Nat, k ≤ m ∧ i = .int .i64 k ∧ Hid (∀ x ∈ xs.take k, q x = false)) (fun i => m - (intOf i).toNat)
    case atStart => exact ⟨0, Nat.zero_le _, rfl, Lib.hid (fun x hx => by cases hx)⟩
    case round =>
      obtain ⟨k, hk, rfl, HA⟩ := hrel
      by_cases hlt : k < m
      · have hlt2 : k < xs.length := by rw [HN.out]; exact hlt
        obtain ⟨g, o, rfl, hg, _, hra⟩ := HAT.out k hlt2
        obtain ⟨c0, a1, p1, c1, hp1, hattrs⟩ := EnAt.parts (EnAt.call hra hg trivial hb1)
        have HF := Lib.hid (HFND.out k hlt2 HA.out)
        have HT := Lib.hid (HTM.out k hlt2 HA.out)
        have HPX := Lib.hid (HP.out xs[k])
        generalize xs[k] = x at *
        obtain ⟨name, attrs⟩ := x
        simp only at c0 c1 HPX
        clear hra hlt2 HFND HNON HTM hattrs HP
        cases hq : (name == n) with
        | true =>
          have HZ := Lib.hid (HF.out (HPX.out.trans hq))
          go_wp2_with fail
          go_ret
          exact ⟨by rw [HR.out, HZ.out]; rfl, hb1⟩
        | false =>
          have HZ := Lib.hid (HT.out (HPX.out.trans hq))
          go_wp2_with fail
          go_round
          case rel => exact ⟨k + 1, by omega, by go_num, HZ⟩
          case measure => simp [intOf]; omega
      · have HALL : Hid (I = none) := Lib.hid (HNON.out (by have := HA.out; rwa [List.take_of_length_le (by rw [HN.out]; omega)] at this))
        go_wp2_with fail
        go_ret
        exact ⟨by rw [HR.out, HALL.out]; rfl, hb1⟩
  · have hez : (e0 == 0) = false := by simpa using he
    have HR : Hid (R = none) := Lib.hid (HR0.out.trans (if_neg he))
    clear HR0
    go_enter Tryz.func20, Tryz.ntmps20
    go_wp2_with fail
    refine h1.mono ?_; rintro e w1 ⟨rfl, hb1⟩
    go_wp2_with fail
    go_loop [15] (fun i => ∃ k : Nat, k ≤ m ∧ i = .int .i64 k) (fun i => m - (intOf i).toNat)
    case atStart => exact ⟨0, Nat.zero_le _, rfl⟩
    case round =>
      obtain ⟨k, hk, rfl⟩ := hrel
      by_cases hlt : k < m
      · go_wp2_with fail
        go_round
        case rel => exact ⟨k + 1, by omega, by go_num⟩
        case measure => simp [intOf]; omega
      · have hkn : k = m := by omega
        subst hkn
        go_wp2_with fail
        go_ret
        exact ⟨by rw [HR.out]; rfl, hb1⟩

end Go.Proofs.YtdcljilfnkmloaaGreatDoor
namespace Go.Proofs.YtdcljilfnkmloaaGreatDoor
open Go.RowKit

theorem bytes_lst (x : ByteArray) : ∃ l : List UInt8, x = ⟨l.toArray⟩ := ⟨x.data.toList, by cases x; simp⟩
/-! lists that are laid anew -/
theorem strs_lit {w : World} {g : Nat} {T : TypeId} {cs : Array Value} {ok : Nat → Prop} (hw : Whole w g T cs) (hok : ok g) {xs : List (List UInt8)} {n : Nat} (hn : xs.length = n) (h : ∀ (j : Nat) (x : List UInt8), xs[j]? = some x → cs[j]? = some (strV x)) :
    StrsP ok w (.slice (some ⟨g, 0, none⟩) n n) xs := by
  subst hn
  refine ⟨_, _, rfl, Nat.le_refl _, .inr ⟨g, 0, rfl, hw.lt, hok, fun j x hj => ?_⟩⟩
  show w.cell? ⟨g, 0 + j * 1, none⟩ = _
  rw [Nat.zero_add, Nat.mul_one, hw.cell]
  exact h j x hj
theorem attrs_lit {w : World} {g : Nat} {T : TypeId} {cs : Array Value} {ok : Nat → Prop} (hw : Whole w g T cs) (hok : ok g) {xs : List EnS.At} {n : Nat} (hn : xs.length = n)
    (h : ∀ (j : Nat) (x : EnS.At), xs[j]? = some x → cs[j * 2]? = some (strV x.typ) ∧ ∃ u, cs[j * 2 + 1]? = some u ∧ StrsP ok w u x.vals) : AttrsP ok w (.slice (some ⟨g, 0, none⟩) n n) xs := by
  subst hn
  refine ⟨_, _, rfl, Nat.le_refl _, .inr ⟨g, 0, rfl, hw.lt, hok, fun j x hj => ?_⟩⟩
  obtain ⟨h1, u, h2, h3⟩ := h j x hj
  rw [Nat.zero_add]
  exact ⟨(hw.cell _).trans h1, u, (hw.cell _).trans h2, h3⟩
theorem alloc_size (w : World) (o : Obj) : (w.alloc o).heap.size = w.heap.size + 1 := by
  show (w.heap.push _).size = _
  simp
/-- two attributes of one value each, laid anew: the blocks from the world's end on -/
theorem two_attrs (w : World) (t1 v1 t2 v2 : List UInt8) : ∃ W, W = ((w.alloc (.cells #[strV v1] 9)).alloc (.cells #[strV v2] 9)).alloc (.cells #[strV t1, .slice (some ⟨w.heap.size, 0, none⟩) 1 1, strV t2, .slice (some ⟨w.heap.size + 1, 0, none⟩) 1 1] 51) ∧
    W.heap.size = w.heap.size + 3 ∧ Below w.heap.size w W ∧ AttrsP (fun g => w.heap.size ≤ g) W (.slice (some ⟨w.heap.size + 2, 0, none⟩) 2 2) [⟨t1, [v1]⟩, ⟨t2, [v2]⟩] := by
  refine ⟨_, rfl, ?_, ?_, ?_⟩
  · rw [alloc_size, alloc_size, alloc_size]
  · exact below_alloc (below_alloc (grow1 w _) _) _
  · have a1 := Whole.made w 9 #[strV v1]
    have a2 := Whole.made (w.alloc (.cells #[strV v1] 9)) 9 #[strV v2]
    rw [alloc_size] at a2
    have a3 := Whole.made ((w.alloc (.cells #[strV v1] 9)).alloc (.cells #[strV v2] 9)) 51 #[strV t1, .slice (some ⟨w.heap.size, 0, none⟩) 1 1, strV t2, .slice (some ⟨w.heap.size + 1, 0, none⟩) 1 1]
    rw [alloc_size, alloc_size] at a3
    have b1 := (a1.call (grow1 _ (.cells #[strV v2] 9))).call (grow1 _ (.cells #[strV t1, .slice (some ⟨w.heap.size, 0, none⟩) 1 1, strV t2, .slice (some ⟨w.heap.size + 1, 0, none⟩) 1 1] 51))
    have b2 := a2.call (grow1 _ (.cells #[strV t1, .slice (some ⟨w.heap.size, 0, none⟩) 1 1, strV t2, .slice (some ⟨w.heap.size + 1, 0, none⟩) 1 1] 51))
    refine attrs_lit (ok := fun g => w.heap.size ≤ g) (xs := [⟨t1, [v1]⟩, ⟨t2, [v2]⟩]) a3 (show w.heap.size ≤ w.heap.size + 1 + 1 by omega) rfl (fun j x hj => ?_)
    match j, hj with
    | 0, hj =>
      have := Option.some.inj hj; subst this
      exact ⟨rfl, _, rfl, strs_lit b1 (Nat.le_refl _) rfl (fun j x hj => by
        match j, hj with
        | 0, hj => have := Option.some.inj hj; subst this; rfl
        | j + 1, hj => simp at hj)⟩
    | 1, hj =>
      have := Option.some.inj hj; subst this
      exact ⟨rfl, _, rfl, strs_lit b2 (Nat.le_succ _) rfl (fun j x hj => by
        match j, hj with
        | 0, hj => have := Option.some.inj hj; subst this; rfl
        | j + 1, hj => simp at hj)⟩
    | j + 2, hj => simp at hj
theorem cost_fit {xs : List EnS.En} (h : EnS.sumBy EnS.cE xs ≤ 3000) : FitE xs := by
  refine ⟨Nat.le_trans (cost_len xs) (by omega), fun x hx => ?_⟩
  have h1 := EnS.sumBy_mem (f := EnS.cE) hx
  have h2 : EnS.cE x = 1 + x.name.length / 100 + EnS.sumBy EnS.cA x.attrs := rfl
  refine ⟨by omega, Nat.le_trans (cost_attrs x.attrs) (by omega), fun y hy => ?_⟩
  have h3 := EnS.sumBy_mem (f := EnS.cA) hy
  have h4 : EnS.cA y = 1 + y.vals.length + EnS.sumBy EnS.cV y.vals := rfl
  refine ⟨by omega, fun v hv => ?_⟩
  have h5 := EnS.sumBy_mem (f := EnS.cV) hv
  have h6 : EnS.cV v = v.length / 100 := rfl
  omega
end Go.Proofs.YtdcljilfnkmloaaGreatDoor
