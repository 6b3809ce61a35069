/- The walks of the small functions of the laws on parts: 'ours', 'theirs', 'few', 'SameAVAs', 'awake'. Conditions: lists of at most 1000000 pairs; the library's variables are laid. The walks of 'SameAVAs' and of 'awake' of the laws on parts, and of the law RdnParses. Conditions: the library's variables are laid. -/
import Derived.Test.YtjjbkldlgjllnaaGreatDoorRdl
import Derived.BigQuiet
import Derived.Laws.StructEq
namespace Go.Proofs.YtjjbkldlgjllnaaGreatDoor
open Go.RowKit

def oursLoop (xs : List RdS.Pr) (w0 : World) (out i : Value) (wr : World) : Prop :=
  ∃ k : Nat, k ≤ xs.length ∧ i = .int .i64 k ∧ OwnA 66 wr w0.heap.size out (xs.take k) ∧ Below w0.heap.size w0 wr
set_option maxRecDepth 100000 in
theorem ours_c (v : Value) (xs : List RdS.Pr) (w : World) (h : AvasIn w v xs) (hl : xs.length ≤ 1000000) : Calls Tryz.prog 35 #[v] w fun e w' => ∃ u, e = .returned u ∧ OwnA 66 w' w.heap.size u xs ∧ Below w.heap.size w w' := by
  obtain ⟨a, c, rfl, hc, hcase⟩ := h
  rcases hcase with rfl | ⟨g, o, rfl, hg, hcell⟩
  · go_enter Tryz.func35, Tryz.ntmps35
    go_wp2_with fail
    refine wp_loop_rounds 1 ?_
    rw [rounds_succ]
    go_wp2_with fail
    go_ret
    exact ⟨_, rfl, OwnA.empty _ _ _, Below.refl _ _⟩
  · generalize hn : xs.length = n at *
    have HN := Lib.hid hn
    have HCELL := Lib.hid hcell
    obtain ⟨i0, hi, hz0, hz1, hz2⟩ := info_parts infoAva2
    have HI := Lib.hid hi
    clear hn hcell hi
    go_enter Tryz.func35, Tryz.ntmps35
    go_wp2_with fail
    go_loopw [3, 7] (fun out i wr => oursLoop xs w out i wr) (fun _ i _ => n - (intOf i).toNat)
    case atStart => exact ⟨0, Nat.zero_le _, rfl, OwnA.empty _ _ _, Below.refl _ _⟩
    case round =>
      obtain ⟨k, hk, rfl, hown, hb⟩ := hrel
      rw [HN.out] at hk
      have hsz := hb.size
      by_cases hlt : k < n
      · have hlt2 : k < xs.length := by rw [HN.out]; exact hlt
        obtain ⟨c0, c1⟩ := HCELL.out k _ (List.getElem?_eq_getElem hlt2)
        have HTK := Lib.hid (List.take_succ_eq_append_getElem hlt2)
        have htl : (xs.take k).length ≤ 1000000 := by rw [List.length_take]; omega
        generalize xs[k] = p at *
        obtain ⟨t, u⟩ := p
        simp only at c0 c1
        replace c0 : wr.cell? ⟨g, o + k * 2, none⟩ = some (strV t) := (hb.cell (p := ⟨g, o + k * 2, none⟩) hg).trans c0
        replace c1 : wr.cell? ⟨g, o + k * 2 + 1, none⟩ = some (strV u) := (hb.cell (p := ⟨g, o + k * 2 + 1, none⟩) hg).trans c1
        unfold strV at c0 c1
        clear hlt2
        go_wp2_with (at_builtin; refine push_ava 66 38 Tryz.underlying38 HI.out hz0 hz1 hz2 (by rfl) (by rfl) _ _ (by rfl) w.heap.size _ (xs.take k) (by rfl) (hown.alloc _) wr.heap.size (by rfl) (t, u) ?e1 ?e2 ?e3 ?e4 ?_)
        case e1 => simp [go_sem, strV]
        case e2 => simp [go_sem, strV]
        case e3 => omega
        case e4 => simp; omega
        intro v' w2 hown2 hb2
        go_wp2_with fail
        go_roundw
        case rel => exact ⟨k + 1, by rw [HN.out]; omega, by go_num, by rw [HTK.out]; exact hown2, (hb.alloc hsz _).trans hb2⟩
        case measure => simp [intOf]; omega
      · have hall : xs.take k = xs := List.take_of_length_le (by rw [HN.out]; omega)
        rw [hall] at hown
        clear hall
        go_wp2_with fail
        go_ret
        exact ⟨_, rfl, hown, hb⟩

def theirsLoop (xs : List RdS.Pr) (w0 : World) (out i : Value) (wr : World) : Prop :=
  ∃ k : Nat, k ≤ xs.length ∧ i = .int .i64 k ∧ OwnA 53 wr w0.heap.size out (xs.take k) ∧ Below w0.heap.size w0 wr
set_option maxRecDepth 100000 in
theorem theirs_c (v : Value) (xs : List RdS.Pr) (w : World) (h : AvasIn w v xs) (hl : xs.length ≤ 1000000) : Calls Tryz.prog 38 #[v] w fun e w' => ∃ u, e = .returned u ∧ OwnA 53 w' w.heap.size u xs ∧ Below w.heap.size w w' := by
  obtain ⟨a, c, rfl, hc, hcase⟩ := h
  rcases hcase with rfl | ⟨g, o, rfl, hg, hcell⟩
  · go_enter Tryz.func38, Tryz.ntmps38
    go_wp2_with fail
    refine wp_loop_rounds 1 ?_
    rw [rounds_succ]
    go_wp2_with fail
    go_ret
    exact ⟨_, rfl, OwnA.empty _ _ _, Below.refl _ _⟩
  · generalize hn : xs.length = n at *
    have HN := Lib.hid hn
    have HCELL := Lib.hid hcell
    obtain ⟨i0, hi, hz0, hz1, hz2⟩ := info_parts infoAva
    have HI := Lib.hid hi
    clear hn hcell hi
    go_enter Tryz.func38, Tryz.ntmps38
    go_wp2_with fail
    go_loopw [3, 7] (fun out i wr => theirsLoop xs w out i wr) (fun _ i _ => n - (intOf i).toNat)
    case atStart => exact ⟨0, Nat.zero_le _, rfl, OwnA.empty _ _ _, Below.refl _ _⟩
    case round =>
      obtain ⟨k, hk, rfl, hown, hb⟩ := hrel
      rw [HN.out] at hk
      have hsz := hb.size
      by_cases hlt : k < n
      · have hlt2 : k < xs.length := by rw [HN.out]; exact hlt
        obtain ⟨c0, c1⟩ := HCELL.out k _ (List.getElem?_eq_getElem hlt2)
        have HTK := Lib.hid (List.take_succ_eq_append_getElem hlt2)
        have htl : (xs.take k).length ≤ 1000000 := by rw [List.length_take]; omega
        generalize xs[k] = p at *
        obtain ⟨t, u⟩ := p
        simp only at c0 c1
        replace c0 : wr.cell? ⟨g, o + k * 2, none⟩ = some (strV t) := (hb.cell (p := ⟨g, o + k * 2, none⟩) hg).trans c0
        replace c1 : wr.cell? ⟨g, o + k * 2 + 1, none⟩ = some (strV u) := (hb.cell (p := ⟨g, o + k * 2 + 1, none⟩) hg).trans c1
        unfold strV at c0 c1
        clear hlt2
        go_wp2_with (at_builtin; refine push_ava 53 35 Tryz.underlying35 HI.out hz0 hz1 hz2 (by rfl) (by rfl) _ _ (by rfl) w.heap.size _ (xs.take k) (by rfl) (hown.alloc _) wr.heap.size (by rfl) (t, u) ?e1 ?e2 ?e3 ?e4 ?_)
        case e1 => simp [go_sem, strV]
        case e2 => simp [go_sem, strV]
        case e3 => omega
        case e4 => simp; omega
        intro v' w2 hown2 hb2
        go_wp2_with fail
        go_roundw
        case rel => exact ⟨k + 1, by rw [HN.out]; omega, by go_num, by rw [HTK.out]; exact hown2, (hb.alloc hsz _).trans hb2⟩
        case measure => simp [intOf]; omega
      · have hall : xs.take k = xs := List.take_of_length_le (by rw [HN.out]; omega)
        rw [hall] at hown
        clear hall
        go_wp2_with fail
        go_ret
        exact ⟨_, rfl, hown, hb⟩

def FewRet05 (xs : List RdS.Pr) (w : World) (e : Ending) (w' : World) : Prop := ∃ b, e = .returned (.bool b) ∧ (b = true → xs.length ≤ 51 ∧ ∀ p ∈ xs, p.1.length ≤ 1000 ∧ p.2.length ≤ 1000) ∧ w = w'
set_option maxRecDepth 100000 in
theorem few05_c (v : Value) (xs : List RdS.Pr) (w : World) (h : AvasIn w v xs) (hl : xs.length ≤ 9223372036854775807) : Calls Tryz.prog 36 #[v] w (FewRet05 xs w) := by
  obtain ⟨a, c, rfl, hc, hcase⟩ := h
  rcases hcase with rfl | ⟨g, o, rfl, hg, hcell⟩
  · go_enter Tryz.func36, Tryz.ntmps36
    go_wp2_with fail
    refine wp_loop_rounds 1 ?_
    rw [rounds_succ]
    go_wp2_with fail
    go_ret
    exact ⟨true, rfl, (fun _ => by simp), rfl⟩
  · generalize hn : xs.length = n at *
    have HN := Lib.hid hn
    have HCELL := Lib.hid hcell
    clear hn hcell
    go_enter Tryz.func36, Tryz.ntmps36
    go_wp2_with fail
    go_loop [6] (fun i => ∃ k : Nat, k ≤ n ∧ k ≤ 51 ∧ i = .int .i64 k ∧ Hid (∀ p ∈ xs.take k, p.1.length ≤ 1000 ∧ p.2.length ≤ 1000)) (fun i => n - (intOf i).toNat)
    case atStart => exact ⟨0, Nat.zero_le _, by omega, rfl, Lib.hid (by simp)⟩
    case round =>
      obtain ⟨k, hk, hk51, rfl, HA⟩ := hrel
      by_cases hlt : k < n
      · have hlt2 : k < xs.length := by rw [HN.out]; exact hlt
        obtain ⟨c0, c1⟩ := HCELL.out k _ (List.getElem?_eq_getElem hlt2)
        have HTK := Lib.hid (List.take_succ_eq_append_getElem hlt2)
        generalize xs[k] = p at *
        obtain ⟨t, u⟩ := p
        simp only at c0 c1
        unfold strV at c0 c1
        clear hlt2
        by_cases ht : 1000 < t.length
        · have h1 : decide ((1000 : Int) < (t.length : Int)) = true := decide_eq_true (by omega)
          have h2 : (1000 : Int) < (t.length : Int) := by omega
          go_wp2_with fail
          go_ret
          exact ⟨false, rfl, (fun h => by cases h), rfl⟩
        have h1 : decide ((1000 : Int) < (t.length : Int)) = false := decide_eq_false (by omega)
        by_cases hu : 1000 < u.length
        · have h2 : (1000 : Int) < (u.length : Int) := by omega
          go_wp2_with fail
          go_ret
          exact ⟨false, rfl, (fun h => by cases h), rfl⟩
        have h2 : decide ((1000 : Int) < (u.length : Int)) = false := decide_eq_false (by omega)
        by_cases hi : 50 < k
        · have h3 : (50 : Int) < (k : Int) := by omega
          go_wp2_with fail
          go_ret
          exact ⟨false, rfl, (fun h => by cases h), rfl⟩
        have h3 : decide ((50 : Int) < (k : Int)) = false := decide_eq_false (by omega)
        have HT : Hid (t.length ≤ 1000 ∧ u.length ≤ 1000) := Lib.hid ⟨by omega, by omega⟩
        have hi2 : k ≤ 50 := by omega
        clear ht hu hi
        go_wp2_with fail
        go_round
        case rel => exact ⟨k + 1, by omega, by omega, by go_num, Lib.hid (fun q hq => by
          rw [HTK.out] at hq
          rcases List.mem_append.1 hq with hq | hq
          · exact HA.out q hq
          · have := List.mem_singleton.1 hq; subst this; exact HT.out)⟩
        case measure => simp [intOf]; omega
      · have hall : xs.take k = xs := List.take_of_length_le (by rw [HN.out]; omega)
        have HR : Hid (xs.length ≤ 51 ∧ ∀ p ∈ xs, p.1.length ≤ 1000 ∧ p.2.length ≤ 1000) := Lib.hid ⟨by rw [HN.out]; omega, by have := HA.out; rwa [hall] at this⟩
        clear hall
        go_wp2_with fail
        go_ret
        exact ⟨true, rfl, fun _ => HR.out, rfl⟩
end Go.Proofs.YtjjbkldlgjllnaaGreatDoor
namespace Go.Proofs.YtjjbkldlgjllnaaGreatDoor
open Go.RowKit

theorem equal_pair (T : TypeId) (hf : (Tryz.prog.fieldsOf T).toList.map (fun f => (f.name == "_", f.type, f.offset)) = [(false, 9, 0), (false, 9, 1)]) (ht : Tryz.prog.underlying T = some (.struct (Tryz.prog.fieldsOf T))) (hp : Tryz.prog.stoodInHeld T = false)
    (t1 u1 t2 u2 : List UInt8) (w : World) : (Op.equalIn 10000 T (.agg #[.string ⟨t1.toArray⟩, .string ⟨u1.toArray⟩]) (.agg #[.string ⟨t2.toArray⟩, .string ⟨u2.toArray⟩])).run Tryz.prog w = .ok (t1 == t2 && u1 == u2) w := by
  rw [run_equalIn_struct w 9999 T _ _ ht hp]
  generalize (Tryz.prog.fieldsOf T).toList = fs at hf
  rcases fs with _ | ⟨f0, _ | ⟨f1, _ | ⟨f2, fs⟩⟩⟩
  · simp at hf
  · simp at hf
  · simp only [List.map_cons, List.map_nil, List.cons.injEq, Prod.mk.injEq, and_true] at hf
    obtain ⟨⟨n0, a0, o0⟩, ⟨n1, a1, o1⟩⟩ := hf
    have n0' : f0.name ≠ "_" := by simpa using n0
    have n1' : f1.name ≠ "_" := by simpa using n1
    cases h1 : (t1 == t2) <;> cases h2 : (u1 == u2) <;> simp [Op.eqFields, n0', n1', a0, a1, o0, o1, go_sem, Tryz.underlying9, h1, h2, part]
  · simp at hf
def SameARet (xs ys : List RdS.Pr) (w : World) (e : Ending) (w' : World) : Prop := e = .returned (.bool (decide (xs = ys))) ∧ Below w.heap.size w w'
def SameALoop (xs ys : List RdS.Pr) (w : World) (i : Value) (wr : World) : Prop := ∃ k : Nat, k ≤ xs.length ∧ i = .int .i64 k ∧ xs.take k = ys.take k ∧ Below w.heap.size w wr
set_option maxRecDepth 100000 in
theorem sameavas_c (v1 v2 : Value) (xs ys : List RdS.Pr) (w : World) (h1 : AvasIn w v1 xs) (h2 : AvasIn w v2 ys) (hl : xs.length ≤ 1000000) (hl2 : ys.length ≤ 1000000) : Calls Tryz.prog 34 #[v1, v2] w (SameARet xs ys w) := by
  obtain ⟨a1, c1, rfl, hc1, hcase1⟩ := h1
  obtain ⟨a2, c2, rfl, hc2, hcase2⟩ := h2
  by_cases hlen : xs.length = ys.length
  · have he : ((xs.length : Int) != (ys.length : Int)) = false := by simp [hlen]
    rcases hcase1 with rfl | ⟨g1, o1, rfl, hg1, hcell1⟩
    · have hy : ys = [] := List.eq_nil_of_length_eq_zero hlen.symm
      subst hy
      go_enter Tryz.func34, Tryz.ntmps34
      go_wp2_with fail
      refine wp_loop_rounds 1 ?_
      rw [rounds_succ]
      go_wp2_with fail
      go_ret
      exact ⟨rfl, Below.refl _ _⟩
    rcases hcase2 with rfl | ⟨g2, o2, rfl, hg2, hcell2⟩
    · have hy : xs = [] := List.eq_nil_of_length_eq_zero hlen
      subst hy
      go_enter Tryz.func34, Tryz.ntmps34
      go_wp2_with fail
      refine wp_loop_rounds 1 ?_
      rw [rounds_succ]
      go_wp2_with fail
      go_ret
      exact ⟨rfl, Below.refl _ _⟩
    have HC1 := Lib.hid hcell1
    have HC2 := Lib.hid hcell2
    have HLE := Lib.hid hlen
    rw [← hlen] at hc2 hl2 ⊢
    clear hcell1 hcell2 hlen he
    generalize hn : xs.length = n at *
    have HN := Lib.hid hn
    clear hn
    go_enter Tryz.func34, Tryz.ntmps34
    go_wp2_with fail
    go_loopw [13] (fun i wr => SameALoop xs ys w i wr) (fun i _ => n - (intOf i).toNat)
    case atStart => exact ⟨0, Nat.zero_le _, rfl, rfl, Below.refl _ _⟩
    case round =>
      obtain ⟨k, hk, rfl, htk, hb⟩ := hrel
      rw [HN.out] at hk
      by_cases hlt : k < n
      · have hx : k < xs.length := by rw [HN.out]; exact hlt
        have hy : k < ys.length := by rw [← HLE.out]; exact hlt
        obtain ⟨d0, d1⟩ := HC1.out k _ (List.getElem?_eq_getElem hx)
        obtain ⟨e0, e1⟩ := HC2.out k _ (List.getElem?_eq_getElem hy)
        have HX := Lib.hid (List.take_succ_eq_append_getElem hx)
        have HY := Lib.hid (List.take_succ_eq_append_getElem hy)
        have HXY : Hid (xs = ys → xs[k] = ys[k]) := Lib.hid (fun h => by subst h; rfl)
        generalize xs[k] = p at *
        generalize ys[k] = q at *
        obtain ⟨t1, u1⟩ := p
        obtain ⟨t2, u2⟩ := q
        simp only at d0 d1 e0 e1
        replace d0 : wr.cell? ⟨g1, o1 + k * 2, none⟩ = some (strV t1) := (hb.cell (p := ⟨g1, o1 + k * 2, none⟩) hg1).trans d0
        replace d1 : wr.cell? ⟨g1, o1 + k * 2 + 1, none⟩ = some (strV u1) := (hb.cell (p := ⟨g1, o1 + k * 2 + 1, none⟩) hg1).trans d1
        replace e0 : wr.cell? ⟨g2, o2 + k * 2, none⟩ = some (strV t2) := (hb.cell (p := ⟨g2, o2 + k * 2, none⟩) hg2).trans e0
        replace e1 : wr.cell? ⟨g2, o2 + k * 2 + 1, none⟩ = some (strV u2) := (hb.cell (p := ⟨g2, o2 + k * 2 + 1, none⟩) hg2).trans e1
        unfold strV at d0 d1 e0 e1
        have HTK := Lib.hid htk
        clear hx hy htk
        have hgd : ∀ x y w, (eqGuard .neq 66 x y (.agg #[.string ⟨t1.toArray⟩, .string ⟨u1.toArray⟩]) (.agg #[.string ⟨t2.toArray⟩, .string ⟨u2.toArray⟩])).run Tryz.prog w = .ok () w := fun x y w => run_eqGuard_agg w .neq _ x y _ _ (by kernel_rfl)
        have hne : ∀ w, (binOp .neq 66 (.agg #[.string ⟨t1.toArray⟩, .string ⟨u1.toArray⟩]) (.agg #[.string ⟨t2.toArray⟩, .string ⟨u2.toArray⟩])).run Tryz.prog w = .ok (.bool (!(t1 == t2 && u1 == u2))) w := fun w => by
          rw [run_neq_struct, equal_pair 66 (by kernel_rfl) (by kernel_rfl) (by kernel_rfl)]; rfl
        cases hq : (t1 == t2 && u1 == u2) with
        | true =>
          rw [hq] at hne
          rw [Bool.and_eq_true, beq_iff_eq, beq_iff_eq] at hq
          obtain ⟨rfl, rfl⟩ := hq
          go_wp2_with fail
          go_quiet (fail)
          go_wp2_with fail
          go_roundw
          case rel => exact ⟨k + 1, by rw [HN.out]; omega, by go_num, by rw [HX.out, HY.out, HTK.out], hb.trans ((below_drewN wr nq).mono hb.size)⟩
          case measure => simp [intOf]; omega
        | false =>
          rw [hq] at hne
          have HF : Hid (¬ xs = ys) := Lib.hid (fun h => by
            have := HXY.out h
            rw [Prod.mk.injEq] at this
            rw [this.1, this.2] at hq
            simp at hq)
          clear hq
          go_wp2_with fail
          go_quiet (fail)
          go_wp2_with fail
          go_ret
          exact ⟨by rw [decide_eq_false HF.out]; rfl, hb.trans ((below_drewN wr nq).mono hb.size)⟩
      · have hkn : k = n := by omega
        subst hkn
        have HEQ : Hid (xs = ys) := Lib.hid (by
          rw [List.take_of_length_le (by rw [HN.out]; omega), List.take_of_length_le (by rw [← HLE.out]; omega)] at htk; exact htk)
        go_wp2_with fail
        go_ret
        exact ⟨by rw [decide_eq_true HEQ.out]; rfl, hb⟩
  · have he : ((xs.length : Int) != (ys.length : Int)) = true := by simp; omega
    have HNE : Hid (¬ xs = ys) := Lib.hid (fun h => hlen (by rw [h]))
    clear hlen hcase1 hcase2
    go_enter Tryz.func34, Tryz.ntmps34
    go_wp2_with fail
    go_ret
    exact ⟨by rw [decide_eq_false HNE.out]; rfl, Below.refl _ _⟩

theorem awake05_is : RdS.partS [79, 85, 61, 97, 43, 67, 78, 61, 98] = ([([99, 110], [98]), ([111, 117], [97])], 0) := by decide +kernel
set_option maxRecDepth 100000 in
theorem awake05_c (w : World) (hE : Env w) : Calls Tryz.prog 31 #[] w (True_ w) := by
  have hp := rdparse_c [79, 85, 61, 97, 43, 67, 78, 61, 98] (by decide) w hE
  unfold PartRet at hp
  rw [awake05_is] at hp
  have hgd : ∀ x y w, (eqGuard .eql 53 x y (.agg #[.string ⟨#[99, 110]⟩, .string ⟨#[98]⟩]) (.agg #[.string ⟨#[99, 110]⟩, .string ⟨#[98]⟩])).run Tryz.prog w = .ok () w := fun x y w => run_eqGuard_agg w .eql _ x y _ _ (by kernel_rfl)
  have heq : ∀ w, (binOp .eql 53 (.agg #[.string ⟨#[99, 110]⟩, .string ⟨#[98]⟩]) (.agg #[.string ⟨#[99, 110]⟩, .string ⟨#[98]⟩])).run Tryz.prog w = .ok (.bool true) w := fun w => by
    have h := equal_pair 53 (by kernel_rfl) (by kernel_rfl) (by kernel_rfl) [99, 110] [98] [99, 110] [98] w
    rw [run_eql_struct, h]; rfl
  go_enter Tryz.func31, Tryz.ntmps31
  go_wp2_with fail
  refine hp.mono ?_
  rintro e w1 ⟨v, rfl, hv, hb⟩
  obtain ⟨a, c, rfl, hc, hcase⟩ := hv
  rcases hcase with h | ⟨g, o, rfl, hg, hcell⟩
  · cases h
  obtain ⟨c0, c1⟩ := hcell 0 _ rfl
  simp only [Nat.zero_mul, Nat.add_zero, strV] at c0 c1
  clear hcell
  go_wp2_with fail
  go_ret
  exact ⟨rfl, hb⟩

set_option maxRecDepth 100000 in
set_option maxHeartbeats 4000000 in
theorem rdnparses_c (s : ByteArray) (hs : s.size ≤ 9223372036854775807) (w : World) (hE : Env w) : Calls Tryz.prog 8 #[.string s] w (True_ w) := by
  obtain ⟨⟨l⟩⟩ := s
  have hs : l.length ≤ 9223372036854775807 := hs
  by_cases hl : 3000 < l.length
  · have hz : (3000 : Int) < (l.length : Int) := by omega
    go_enter Tryz.func8, Tryz.ntmps8
    go_wp2_with fail
    refine (awake05_c _ hE).mono ?_; rintro e w1 ⟨rfl, hb1⟩
    go_wp2_with fail
    refine (awake05_c _ (hE.below hb1)).mono ?_; rintro e w2 ⟨rfl, hb2⟩
    go_wp2_with fail
    go_ret
    exact ⟨rfl, below_trans hb1 hb2⟩
  · have hz : decide ((3000 : Int) < (l.length : Int)) = false := decide_eq_false (by omega)
    have hp := fun w hE => rdparse_c l (by omega) w hE
    have hr := fun w hE => refpart_c l (by omega) w hE
    unfold PartRet at hp hr
    have HX : Hid ((RdS.partS l).1.length ≤ 1000000) := Lib.hid (by
      cases hq : (RdS.partS l).2 == 0 with
      | true =>
        have := (RdS.formed_parts (RdS.part_formed (s := l) (l := (RdS.partS l).1) (by rw [← beq_iff_eq.1 hq]))).2.1
        omega
      | false => rw [RdS.part_none (by simpa using hq)]; simp)
    generalize RdS.partS l = P at *
    obtain ⟨xs, e0⟩ := P
    simp only at hp hr HX
    clear hl
    go_enter Tryz.func8, Tryz.ntmps8
    go_wp2_with fail
    refine (awake05_c _ hE).mono ?_; rintro e w1 ⟨rfl, hb1⟩
    go_wp2_with fail
    refine (hp _ (hE.below hb1)).mono ?_; rintro e w2 ⟨v2, rfl, hv2, hb2⟩
    have hE2 := (hE.below hb1).below hb2
    go_wp2_with fail
    refine (hr _ hE2).mono ?_; rintro e w3 ⟨v3, rfl, hv3, hb3⟩
    go_wp2_with fail
    refine (ours_c v2 xs _ (hv2.call hb3 (Nat.le_refl _)) HX.out).mono ?_; rintro e w4 ⟨v4, rfl, hv4, hb4⟩
    go_wp2_with fail
    refine (sameavas_c v4 v3 xs xs _ hv4.avas (hv3.call hb4 (Nat.le_refl _)) HX.out HX.out).mono ?_; rintro e w5 ⟨rfl, hb5⟩
    rw [decide_eq_true rfl]
    go_wp2_with fail
    go_ret
    exact ⟨rfl, below_trans (below_trans (below_trans (below_trans hb1 hb2) hb3) hb4) hb5⟩
end Go.Proofs.YtjjbkldlgjllnaaGreatDoor
