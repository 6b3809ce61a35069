/- The walks of entries in order: the document's CopyAll, ahead and Sorted. Conditions: those that each theorem states; the library's variables are laid. The walk of a tree of entries: the document's Of. Conditions: those that the theorem states; the library's variables are laid. -/
import Derived.Deep.CutBlock
import Derived.Deep.DeepCutAuto
import Derived.BigQuiet
import Derived.Test.YtdcljilfnkmloaaGreatDoorSVic
import Derived.Test.YtdcljilfnkmloaaGreatDoorSOks
import Derived.Test.YtdcljilfnkmloaaGreatDoorSVir
namespace Go.Proofs.YtdcljilfnkmloaaGreatDoor
open Go.RowKit
attribute [local go_sem ↓] Go.wp_at_zero Go.wp_at_succ

/-- those that come out are of those that came in, and each one's name is there -/
def SubS (xs ys : List EnS.En) : Prop := (∀ y ∈ ys, y ∈ xs) ∧ ∀ x ∈ xs, ∃ y ∈ ys, y.name = x.name
theorem SubS.skip {xs ys : List EnS.En} {k n : Nat} (hk : k < xs.length) (h : SubS (xs.take k) ys) (hn : n < ys.length) (e : ys[n].name = xs[k].name) : SubS (xs.take (k + 1)) ys := by
  rw [List.take_succ_eq_append_getElem hk]
  refine ⟨fun y hy => List.mem_append_left _ (h.1 y hy), fun x hx => ?_⟩
  rcases List.mem_append.1 hx with hx | hx
  · exact h.2 x hx
  · rw [List.mem_singleton] at hx
    subst hx
    exact ⟨ys[n], List.getElem_mem hn, e⟩
theorem SubS.lay {xs ys : List EnS.En} {k : Nat} (hk : k < xs.length) (h : SubS (xs.take k) ys) (n : Nat) : SubS (xs.take (k + 1)) (ys.take n ++ [xs[k]] ++ ys.drop n) := by
  rw [List.take_succ_eq_append_getElem hk]
  refine ⟨fun y hy => ?_, fun x hx => ?_⟩
  · rcases List.mem_append.1 hy with hy | hy
    · rcases List.mem_append.1 hy with hy | hy
      · exact List.mem_append_left _ (h.1 y (List.mem_of_mem_take hy))
      · exact List.mem_append_right _ hy
    · exact List.mem_append_left _ (h.1 y (List.mem_of_mem_drop hy))
  · rcases List.mem_append.1 hx with hx | hx
    · obtain ⟨y, hy, e⟩ := h.2 x hx
      refine ⟨y, ?_, e⟩
      rw [← List.take_append_drop n ys] at hy
      rcases List.mem_append.1 hy with hy | hy
      · exact List.mem_append_left _ (List.mem_append_left _ hy)
      · exact List.mem_append_right _ hy
    · rw [List.mem_singleton] at hx
      subst hx
      exact ⟨xs[k], List.mem_append_left _ (List.mem_append_right _ (List.mem_singleton.2 rfl)), rfl⟩
set_option maxRecDepth 100000 in
set_option maxHeartbeats 2000000 in
theorem refcopyall_c (u : Value) (xs : List EnS.En) (w : World) (h : EnsIn w u xs) (hf : FitE xs) :
    Calls Tryz.prog 55 #[u] w (OfRet xs w) := by
  have HCP := Lib.hid (fun k (hk : k < xs.length) C u W (hC : C ≤ W.heap.size) h => enrefcopy_c C (xs[k]'hk).name (xs[k]'hk).attrs u W hC h (hf.2 _ (List.getElem_mem hk)).2)
  unfold CopyRet at HCP
  obtain ⟨a, c, rfl, hc, hat⟩ := SliceP.at h
  have HAT := Lib.hid hat
  have hxl : xs.length ≤ 1048576 := hf.1
  have HTL := Lib.hid (fun k (hk : k < xs.length) => List.take_succ_eq_append_getElem hk)
  obtain ⟨i0, hi, hz0, hz1, hz2⟩ := info_parts infoEntry
  have HI := Lib.hid hi
  clear hat h hf hi
  go_enter Tryz.func55, Tryz.ntmps55
  go_wp2_with fail
  go_loopw [3, 7] (fun out i wr => ∃ k : Nat, k ≤ xs.length ∧ i = .int .i64 k ∧ OwnK enK 26 [9, 51] w.heap.size wr w.heap.size out (xs.take k) ∧ Below w.heap.size w wr) (fun _ i _ => xs.length - (intOf i).toNat)
  case atStart => exact ⟨0, Nat.zero_le _, rfl, OwnK.empty _ _ _ _ _ _, Below.refl _ _⟩
  case round =>
    obtain ⟨k, hk, rfl, hown, hb⟩ := hrel
    by_cases hlt : k < xs.length
    · obtain ⟨g, o, rfl, hg, _, hra⟩ := HAT.out k hlt
      obtain ⟨c0, a2, p2, c1, hp2, hax⟩ := EnAt.parts (EnAt.call hra hg trivial hb)
      have hcp := HCP.out k hlt w.heap.size _ wr hb.size hax
      have htl := HTL.out k hlt
      clear hra HAT HCP HTL hax
      have htk : (xs.take k).length ≤ 1048576 := by rw [List.length_take]; omega
      generalize xs[k] = x at *
      obtain ⟨name, ats⟩ := x
      simp only at c0 c1 hp2 hcp
      have hl0 : (0 : Int) ≤ (k : Int) := by omega
      have hl1 : (k : Int) < (xs.length : Int) := by omega
      generalize hgL : ats.length = L at *
      go_wp2_with fail
      refine hcp.mono ?_
      rintro e w2 ⟨u2, rfl, hown2, hb2⟩
      have hbB := hb.trans (hb2.mono hb.size)
      have hownB := hown.call hb2
      have hel := hown2.attrsB (Ts' := [9, 51]) (by simp) (by simp)
      obtain ⟨yb, yd, rfl⟩ := hown2.form
      rw [hgL] at hel ⊢
      have hgC := grow1 w2 (.cells #[.string ⟨name.toArray⟩, .slice yb L yd] 26)
      have hwC := Whole.made w2 26 #[.string ⟨name.toArray⟩, .slice yb L yd]
      have hbC := hbB.trans (hgC.mono hbB.size)
      have hownC := hownB.call hgC
      have helC := AttrsP.callT hel hgC
      have b0 := hwC.cell 0
      have b1 := hwC.cell 1
      have hsz := hbC.size
      simp only [List.getElem?_toArray, List.getElem?_cons_zero, List.getElem?_cons_succ] at b0 b1
      clear hown2 hownB hel hown hcp
      go_wp2_with (at_builtin; refine push_k enK 26 34 [9, 51] (by decide) Tryz.underlying34 HI.out hz0 hz1 hz2 (by rfl) (by rfl) _ _ (by rfl) w.heap.size (Nat.le_refl _) _ (xs.take k) (by rfl) hownC w2.heap.size (by rfl) ⟨name, ats⟩ _ b0 b1 helC (by omega) hsz ?_)
      intro v3 w3 hown3 hb3 hgw3
      rw [← htl] at hown3
      go_wp2_with fail
      go_roundw
      case rel => exact ⟨k + 1, by omega, by go_num, hown3, hbC.trans hb3⟩
      case measure => simp [intOf]; omega
    · have hkl : k = xs.length := by omega
      subst hkl
      simp only [List.take_length] at hown
      go_wp2_with fail
      go_ret
      exact ⟨_, rfl, hown, hb⟩
/-- one Bool comes back -/
def SomeB (w : World) (e : Ending) (w' : World) : Prop := ∃ b : Bool, e = .returned (.bool b) ∧ Below w.heap.size w w'
set_option maxRecDepth 100000 in
set_option maxHeartbeats 1000000 in
theorem ahead_c (u1 u2 : Value) (x y : Ky) (w : World) (h1 : StrsIn w u1 x.1) (h2 : StrsIn w u2 y.1) (hl1 : x.1.length ≤ 1000) (hl2 : y.1.length ≤ 1000) :
    Calls Tryz.prog 84 #[.agg #[u1, .bool x.2], .agg #[u2, .bool y.2]] w (SomeB w) := by
  have ho := fun W (hb : Below w.heap.size w W) => order_c u1 u2 x.1 y.1 W (h1.call hb (Nat.le_refl _)) (h2.call hb (Nat.le_refl _)) hl1 hl2
  unfold OrderRet at ho
  obtain ⟨xs, bx⟩ := x
  obtain ⟨ys, by'⟩ := y
  simp only at h1 h2 ho ⊢
  generalize DnS.orderS xs ys = N at *
  obtain ⟨a1, c1, hu1, hc1, _⟩ := h1
  obtain ⟨a2, c2, hu2, hc2, _⟩ := h2
  subst hu1 hu2
  clear hc1 hc2 hl1 hl2
  generalize xs.length = L1 at *
  generalize ys.length = L2 at *
  have hgA := grow1 w (.cells #[.slice a1 L1 c1, .bool bx] 118)
  have hwA := Whole.made w 118 #[.slice a1 L1 c1, .bool bx]
  have hgB := grow1 (w.alloc (.cells #[.slice a1 L1 c1, .bool bx] 118)) (.cells #[.slice a2 L2 c2, .bool by'] 118)
  have hwB := Whole.made (w.alloc (.cells #[.slice a1 L1 c1, .bool bx] 118)) 118 #[.slice a2 L2 c2, .bool by']
  have hmB : (w.alloc (.cells #[.slice a1 L1 c1, .bool bx] 118)).heap.size = w.heap.size + 1 := by show (w.heap.push _).size = _; exact Array.size_push _
  rw [hmB] at hwB
  have hwA := hwA.call hgB
  have hbB := below_trans hgA hgB
  have a0 := hwA.cell 0
  have a1' := hwA.cell 1
  have b0 := hwB.cell 0
  have b1 := hwB.cell 1
  simp only [List.getElem?_toArray, List.getElem?_cons_zero, List.getElem?_cons_succ] at a0 a1' b0 b1
  have ho1 := ho _ hbB
  clear ho hgA hgB hwA hwB hmB
  go_enter Tryz.func84, Tryz.ntmps84
  cases bx with
  | false =>
    go_wp2_with fail
    go_ret
    exact ⟨_, rfl, hbB⟩
  | true =>
    cases by' with
    | false =>
      go_wp2_with fail
      go_ret
      exact ⟨_, rfl, hbB⟩
    | true =>
      go_wp2_with fail
      refine ho1.mono ?_
      rintro e w2 ⟨rfl, hb2⟩
      have hz := below_trans hbB hb2
      go_wp2_with fail
      go_ret
      exact ⟨_, rfl, hz⟩
theorem SliceP.get {α : Type} {k : Nat} {El : World → Nat → Nat → α → Prop} {ok : Nat → Prop} {w : World} {a : Option Addr} {n c : Nat} {xs : List α} (h : SliceP k El ok w (.slice a n c) xs) {j : Nat} (hj : j < xs.length) : ∃ g o, a = some ⟨g, o, none⟩ ∧ g < w.heap.size ∧ ok g ∧ El w g (o + j * k) (xs[j]'hj) := by
  obtain ⟨a', c', e, _, hat⟩ := SliceP.at h
  cases e
  exact hat j hj
/-- what is read of such a row: its elements -/
theorem OwnK.readE {α : Type} {L : KLay α} {T : TypeId} {Ts : List TypeId} {C : Nat} {w : World} {B : Nat} {v : Value} {xs : List α} (h : OwnK L T Ts C w B v xs) :
    SliceP 2 (fun w g o x => w.cell? ⟨g, o, none⟩ = some (strV (L.key x)) ∧ ∃ u, w.cell? ⟨g, o + 1, none⟩ = some u ∧ L.El (okT Ts C w) w u x) (fun _ => True) w v xs := by
  obtain ⟨us, h1, h2, h3⟩ := h
  rcases h1.2 with ⟨rfl, hn⟩ | ⟨g, cap, cur, rfl, hg, hh, hn, hm, hsz, htk⟩
  · exact ⟨none, 0, by rw [hn], by omega, .inl (List.eq_nil_of_length_eq_zero hn)⟩
  · refine ⟨some ⟨g, 0, none⟩, cap, rfl, hn, .inr ⟨g, 0, rfl, (Array.getElem?_eq_some_iff.1 hh).1, trivial, fun j x hj => ?_⟩⟩
    have hlt : j < us.length := by rw [h2]; exact (List.getElem?_eq_some_iff.1 hj).1
    have hu := List.getElem?_eq_getElem hlt
    obtain ⟨f0, f1⟩ := flatK_at L xs us j x _ hj hu
    have c0 := World.ownsRow.cells h1 (g := g) rfl (j * 2) _ f0
    have c1 := World.ownsRow.cells h1 (g := g) rfl (j * 2 + 1) _ f1
    have hadd : ∀ i, (⟨g, 0, none⟩ : Addr).add i = ⟨g, 0 + i, none⟩ := fun i => by unfold Addr.add; split <;> simp_all
    rw [hadd] at c0 c1
    exact ⟨c0, us[j], c1, h3 j _ x hu hj⟩
theorem infoKey : (Tryz.prog.info? 118).map (fun i => (i.zero, i.size, i.bytes)) = some (some (.agg #[.slice none 0 0, .bool false]), 2, 32) := by kernel_rfl
def SrtdRet (xs : List EnS.En) (w : World) (e : Ending) (w' : World) : Prop := ∃ v ys, e = .returned v ∧ OwnK enK 26 [9, 51] w.heap.size w' w.heap.size v ys ∧ SubS xs ys ∧ ys.length ≤ xs.length ∧ Below w.heap.size w w'
def SrtdLoop (xs : List EnS.En) (w : World) (out keys i : Value) (wr : World) : Prop := ∃ (k : Nat) (ys : List EnS.En) (qs : List Ky), k ≤ xs.length ∧ i = .int .i64 k ∧ OwnK enK 26 [9, 51] w.heap.size wr w.heap.size out ys ∧ OwnQ 118 wr w.heap.size w.heap.size keys qs ∧ SubS (xs.take k) ys ∧ ys.length ≤ k ∧ qs.length = ys.length ∧ (∀ q ∈ qs, q.1.length ≤ 12) ∧ Below w.heap.size w wr
set_option maxRecDepth 100000 in
set_option maxHeartbeats 4000000 in
theorem sorted_c (u : Value) (xs : List EnS.En) (w : World) (h : EnsIn w u xs) (hf : FitE xs) (hE : Env w) :
    Calls Tryz.prog 56 #[u] w (SrtdRet xs w) := by
  have HPT := Lib.hid (fun k (hk : k < xs.length) W hE => refparts_c (xs[k]'hk).name ((hf.2 _ (List.getElem_mem hk)).1) W hE)
  unfold PartsRet at HPT
  obtain ⟨a, c, rfl, hc, hat⟩ := SliceP.at h
  have HAT := Lib.hid hat
  have HEN := Lib.hid (fun W (hb : Below w.heap.size w W) => hE.below hb)
  have hxl : xs.length ≤ 1048576 := hf.1
  have HSK := Lib.hid (fun k (hk : k < xs.length) (ys : List EnS.En) n (h : SubS (xs.take k) ys) (hn : n < ys.length) e => SubS.skip hk h hn e)
  have HLY := Lib.hid (fun k (hk : k < xs.length) (ys : List EnS.En) n (h : SubS (xs.take k) ys) => SubS.lay hk h n)
  obtain ⟨i0, hi, hz0, hz1, hz2⟩ := info_parts infoEntry
  have HI := Lib.hid hi
  obtain ⟨j0, hj, jz0, jz1, jz2⟩ := info_parts infoKey
  have HJ := Lib.hid hj
  clear hat h hf hE hi hj
  go_enter Tryz.func56, Tryz.ntmps56
  go_wp2_with fail
  go_loopw [3, 4, 14] (SrtdLoop xs w) (fun _ _ i _ => xs.length - (intOf i).toNat)
  case atStart => exact ⟨0, [], [], Nat.zero_le _, rfl, OwnK.empty _ _ _ _ _ _, OwnQ.empty _ _ _ _, ⟨by simp, by simp⟩, Nat.le_refl _, rfl, by simp, Below.refl _ _⟩
  case round =>
    obtain ⟨k, ys, qs, hk, rfl, hown, hkq, hsub, hyl, hql, hq12, hb⟩ := hrel
    by_cases hlt : k < xs.length
    · obtain ⟨g, o, rfl, hg, _, hra⟩ := HAT.out k hlt
      obtain ⟨c0, a2, p2, c1, hp2, hax⟩ := ens_base [9, 51] hra hg
      have HSK1 := Lib.hid (fun (ys : List EnS.En) n (h : SubS (xs.take k) ys) hn e => HSK.out k hlt ys n h hn e)
      have HLY1 := Lib.hid (fun (ys : List EnS.En) n (h : SubS (xs.take k) ys) => HLY.out k hlt ys n h)
      have hpt := HPT.out k hlt wr (HEN.out _ hb)
      have htn := DnS.texts_len (xs[k]'hlt).name
      clear hra HAT HSK HLY HPT
      generalize xs[k] = x at *
      obtain ⟨name, ats⟩ := x
      simp only at c0 c1 hp2 hax hpt htn HSK1
      generalize DnS.textsS name = TS at *
      obtain ⟨ts, e0⟩ := TS
      simp only at hpt htn
      have d0 := keepC c0 hb
      have d1 := keepC c1 hb
      have hax1 := AttrsP.callT hax hb
      clear c0 c1 hax
      generalize hgL : ats.length = L at *
      obtain ⟨oa, oc, rfl, hoc⟩ := SliceP.form hown.ens
      obtain ⟨qa, qc, rfl, hqc⟩ := hkq.form
      generalize hYL : ys.length = Y at *
      generalize hQL : qs.length = QL at *
      subst hql
      have hl0 : (0 : Int) ≤ (k : Int) := by omega
      have hl1 : (k : Int) < (xs.length : Int) := by omega
      go_wp2_with fail
      refine hpt.mono ?_
      rintro e w1 ⟨vp, rfl, hop, hb1⟩
      have hzb := hb.trans (hb1.mono hb.size)
      obtain ⟨va, vc, rfl⟩ := hop.form
      have hpl : ts.length ≤ 12 := htn.1
      have hst := Own.typed (B := w.heap.size) hop (Ts := [9]) (by simp)
      generalize hTL : ts.length = TL at *
      have hgK := grow1 w1 (.cells #[.slice va TL vc, .bool (e0 == 0)] 118)
      have hwK := Whole.made w1 118 #[.slice va TL vc, .bool (e0 == 0)]
      have hzK := hzb.trans (hgK.mono hzb.size)
      have b0 := hwK.cell 0
      have b1 := hwK.cell 1
      have hbk := hwK.lt
      simp only [List.getElem?_toArray, List.getElem?_cons_zero, List.getElem?_cons_succ] at b0 b1
      have hownK := (hown.call hb1).call hgK
      have hkqK := (hkq.call hb1).call hgK
      have hstK := StrsP.callT hst hgK
      have d0K := keepC (keepC d0 hb1) hgK
      have d1K := keepC (keepC d1 hb1) hgK
      have haxK := AttrsP.callT (AttrsP.callT hax1 hb1) hgK
      clear hown hkq hst hop d0 d1 hax1 hpt hwK
      go_upto_block 2 with fail
      generalize w1.alloc (.cells #[.slice va TL vc, .bool (e0 == 0)] 118) = wK at *
      generalize w1.heap.size = bk at *
      generalize hEB : (e0 == (0 : Int)) = eb at *
      clear hEB hgK hzb hb1 hb
      go_cut [9] (fun n wx => ∃ j : Nat, j ≤ QL ∧ n = .int .i64 j ∧ Below wK.heap.size wK wx)
      case first =>
        go_wp2_with fail
        go_loopw [9] (fun n wn => ∃ j : Nat, j ≤ QL ∧ n = .int .i64 j ∧ Below wK.heap.size wK wn) (fun n _ => QL - (intOf n).toNat)
        case atStart => exact ⟨0, Nat.zero_le _, rfl, Below.refl _ _⟩
        case round =>
          obtain ⟨j, hj, rfl, hbn⟩ := hrel
          by_cases hjl : j < QL
          · have hjq : j < qs.length := by rw [hQL]; exact hjl
            obtain ⟨gk, ok, rfl, hgk, _, ⟨uk, k0, hks⟩, k1⟩ := SliceP.get (OwnQ.read hkqK) hjq
            obtain ⟨ua, uc, rfl, _⟩ := SliceP.form hks
            have hkl := hq12 _ (List.getElem_mem hjq)
            generalize qs[j] = q at *
            obtain ⟨kt, kb⟩ := q
            simp only at k0 k1 hks hkl
            have hah := fun W (hb : Below wK.heap.size wK W) => ahead_c (.slice ua kt.length uc) (.slice va TL vc) (kt, kb) (ts, eb) W (hks.strs.call hb (Nat.le_refl _)) (hstK.strs.call hb (Nat.le_refl _)) (by show kt.length ≤ 1000; omega) (by show ts.length ≤ 1000; omega)
            unfold SomeB at hah
            simp only at hah
            generalize kt.length = KL at *
            have n0 := keepC k0 hbn
            have n1 := keepC k1 hbn
            have n2 := keepC b0 hbn
            have n3 := keepC b1 hbn
            have hbD : Below wr.heap.size wr wr.drew := below_drewN wr 1
            have hj0 : (0 : Int) ≤ (j : Int) := by omega
            have hj1 : (j : Int) < (QL : Int) := by omega
            clear hks hkl hjq k0 k1 hownK d0K d1K haxK HI HJ HSK1 HLY1 hstK
            go_wp2_with fail
            go_region_held3 (fun W => W.cell? ⟨gk, ok + j * 2, none⟩ = some (.slice ua KL uc) ∧ W.cell? ⟨gk, ok + j * 2 + 1, none⟩ = some (.bool kb) ∧ W.cell? ⟨bk, 0, none⟩ = some (.slice va TL vc) ∧ W.cell? ⟨bk, 1, none⟩ = some (.bool eb) ∧ Below wK.heap.size wK W)
              (first | exact ⟨n0, n1, n2, n3, hbn.trans (hbD.mono hbn.size)⟩ | (go_split_ands; exact ⟨keepC (by assumption) hbN, keepC (by assumption) hbN, keepC (by assumption) hbN, keepC (by assumption) hbN, Below.trans (by assumption) (hbN.mono (Below.size (by assumption)))⟩) | go_keep)
              (first | (go_at_call 84; go_split_ands; with_reducible refine (hah _ (by assumption)).mono ?_; rintro e wN ⟨b, rfl, hbN⟩))
            go_split_ands
            have hbm : Below wK.heap.size wK wN := by assumption
            cases b with
            | true =>
              go_wp2_with fail
              go_roundw
              case rel => exact ⟨j + 1, by omega, by go_num, hbm⟩
              case measure => simp [intOf]; omega
            | false =>
              go_wp2_with fail
              go_meet
              exact ⟨j, hj, rfl, hbm⟩
          · have hjq : j = QL := by omega
            have hj1 : ¬ (j : Int) < (QL : Int) := by omega
            go_wp2_with fail
            go_quiet (fail)
            go_wp2_with fail
            go_meet
            exact ⟨QL, Nat.le_refl _, rfl, hbn.trans ((below_drewN wr _).mono hbn.size)⟩
      case rest =>
        obtain ⟨j, hj, rfl, hbn⟩ := hcut
        obtain ⟨w5, rfl⟩ : ∃ x, x = wc := ⟨_, rfl⟩
        have hown5 := hownK.call hbn
        have hkq5 := hkqK.call hbn
        have hst5 := StrsP.callT hstK hbn
        have hax5 := AttrsP.callT haxK hbn
        have d05 := keepC d0K hbn
        have d15 := keepC d1K hbn
        have b05 := keepC b0 hbn
        have b15 := keepC b1 hbn
        have hz5 := hzK.trans (hbn.mono hzK.size)
        clear hownK hkqK hstK haxK d0K d1K b0 b1 hzK
        go_upto_region 11 with fail
        go_cut [60] (fun b wx => ∃ bb : Bool, b = .bool bb ∧ (bb = true → ∃ (hjy : j < ys.length), ys[j].name = name) ∧ Below w5.heap.size w5 wx)
        case first =>
          by_cases hjl : j < QL
          · have hjy : j < ys.length := by rw [hYL]; exact hjl
            obtain ⟨gy, oy, rfl, hgy, _, hye⟩ := SliceP.get hown5.readE hjy
            obtain ⟨y0, uy, y1, hye2⟩ := hye
            change w5.cell? ⟨gy, oy + j * 2, none⟩ = some (.string ⟨ys[j].name.toArray⟩) at y0
            obtain ⟨nj, hnj⟩ : ∃ n, n = ys[j].name := ⟨_, rfl⟩
            rw [← hnj] at y0
            have HX := Lib.hid (fun e : nj = name => show ∃ (hjy : j < ys.length), ys[j].name = name from ⟨hjy, by rw [← hnj]; exact e⟩)
            have hj0 : (0 : Int) ≤ (j : Int) := by omega
            have hj1 : (j : Int) < (QL : Int) := by omega
            clear hye2 hnj hown5 hkq5 hst5 hax5 HSK1 HLY1 hjy
            cases hq : (nj == name) with
            | true =>
              have HX2 := Lib.hid (HX.out (by simpa using hq))
              go_wp2_with fail
              go_quiet (fail)
              go_wp2_with fail
              go_meet
              exact ⟨true, rfl, fun _ => HX2.out, below_drewN w5 _⟩
            | false =>
              go_wp2_with fail
              go_quiet (fail)
              go_wp2_with fail
              go_meet
              exact ⟨false, rfl, (fun h => by cases h), below_drewN w5 _⟩
          · have hj1 : ¬ (j : Int) < (QL : Int) := by omega
            clear hown5 hkq5 hst5 hax5 HSK1 HLY1
            go_wp2_with fail
            go_quiet (fail)
            go_wp2_with fail
            go_meet
            exact ⟨false, rfl, (fun h => by cases h), below_drewN w5 _⟩
        case rest =>
          obtain ⟨bb, rfl, hbb, hb6⟩ := hcut
          cases bb with
          | true =>
            obtain ⟨hjy, hnm⟩ := hbb rfl
            have HS2 := HSK1.out ys j hsub hjy hnm
            go_wp2_with fail
            go_roundw
            case rel =>
              have hR : SrtdLoop xs w (.slice oa QL oc) (.slice qa QL qc) (.int .i64 ((k : Int) + 1)) wc := ⟨k + 1, ys, qs, by omega, by go_num, hown5.call hb6, hkq5.call hb6, HS2, by omega, by omega, hq12, hz5.trans (hb6.mono hz5.size)⟩
              exact hR
            case measure => simp [intOf]; omega
          | false =>
            obtain ⟨w6, rfl⟩ : ∃ x, x = wc := ⟨_, rfl⟩
            have hown6 := hown5.call hb6
            have hkq6 := hkq5.call hb6
            have hst6 := StrsP.callT hst5 hb6
            have hax6 := AttrsP.callT hax5 hb6
            have d0 := keepC d05 hb6
            have d1 := keepC d15 hb6
            have b0 := keepC b05 hb6
            have b1 := keepC b15 hb6
            have hz6 := hz5.trans (hb6.mono hz5.size)
            have hC6 := hz6.size
            have hbk6 : bk < w6.heap.size := Nat.lt_of_lt_of_le hbk (hbn.trans (hb6.mono hbn.size)).size
            have HLY2 := Lib.hid (HLY1.out ys j hsub)
            have htl : (ys.take j).length = j := by rw [List.length_take]; omega
            have hdl : (ys.drop j).length = QL - j := by rw [List.length_drop]; omega
            have htq : (qs.take j).length = j := by rw [List.length_take]; omega
            have hdq : (qs.drop j).length = QL - j := by rw [List.length_drop]; omega
            have hi1 := SliceP.take hown6.readE hj
            have hQ1 := SliceP.take hkq6.read hj
            have hjo : j ≤ oc := by omega
            have hjq : j ≤ qc := by omega
            have hj0 : (0 : Int) ≤ (j : Int) := by omega
            have hj1 : (j : Int) ≤ (oc : Int) := by omega
            have hj2 : (j : Int) ≤ (qc : Int) := by omega
            clear hown5 hkq5 hst5 hax5 d05 d15 b05 b15 hz5 hbn hb6 HSK1 HLY1 hbb
            go_wp2_with (at_builtin; (refine push_ks enK 26 34 [9, 51] (by decide) Tryz.underlying34 HI.out hz0 hz1 hz2 (by rfl) (by rfl) _ _ (by rfl) w6.heap.size hC6 _ [] (by rfl) (OwnK.empty _ _ _ _ _ _) _ (ys.take j) (by rfl) hi1 (by simp; omega) (Nat.le_refl _) ?_))
            intro v1 w7 hown7 hb7 hg7
            obtain ⟨n1, m1, rfl⟩ := hown7.form
            rw [htl] at hown7 ⊢
            have d07 := keepC d0 hb7
            have d17 := keepC d1 hb7
            have hax7 := AttrsP.callT hax6 hb7
            have hgA := grow1 w7 (.cells #[.string ⟨name.toArray⟩, .slice a2 L p2] 26)
            have hwA := Whole.made w7 26 #[.string ⟨name.toArray⟩, .slice a2 L p2]
            have hbA := hb7.trans (hgA.mono hb7.size)
            have hownA := hown7.call hgA
            have haxA := AttrsP.callT hax7 hgA
            have f0 := hwA.cell 0
            have f1 := hwA.cell 1
            have hszA := hbA.size
            simp only [List.getElem?_toArray, List.getElem?_cons_zero, List.getElem?_cons_succ] at f0 f1
            clear hown7 hax7 hwA hi1
            go_wp2_with (at_builtin; (refine push_k enK 26 34 [9, 51] (by decide) Tryz.underlying34 HI.out hz0 hz1 hz2 (by rfl) (by rfl) _ _ (by rfl) w6.heap.size hC6 _ (ys.take j) (by rfl) hownA w7.heap.size (by rfl) ⟨name, ats⟩ _ f0 f1 haxA (by omega) hszA ?_))
            intro v2 w8 hown8 hb8 hg8
            obtain ⟨n2, m2, rfl⟩ := hown8.form
            have hl8 : (ys.take j ++ [(⟨name, ats⟩ : EnS.En)]).length = j + 1 := by rw [List.length_append, htl]; rfl
            rw [hl8] at hown8 ⊢
            have hb68 := hbA.trans hb8
            have hown68 := hown6.call hb68
            have hds := hown68.readE
            have hsz8 := hb68.size
            go_upto_region 15 with fail
            go_cut [3] (fun x wd => OwnK enK 26 [9, 51] w.heap.size wd w6.heap.size x (ys.take j ++ [(⟨name, ats⟩ : EnS.En)] ++ ys.drop j) ∧ Below w6.heap.size w6 wd)
            case first =>
              by_cases hjc : oc = j
              · subst hjc
                have h1 : ys.drop oc = [] := List.drop_eq_nil_of_le (by omega)
                have hin := SliceP.nil (k := 2) (El := fun w1 g o (x : EnS.En) => w1.cell? ⟨g, o, none⟩ = some (strV (enK.key x)) ∧ ∃ u, w1.cell? ⟨g, o + 1, none⟩ = some u ∧ enK.El (okT [9, 51] w.heap.size w1) w1 u x) (ok := fun _ => True) (w := w8) oa 0
                go_wp2_with (at_builtin; (refine push_ks enK 26 34 [9, 51] (by decide) Tryz.underlying34 HI.out hz0 hz1 hz2 (by rfl) (by rfl) _ _ (by rfl) w6.heap.size hC6 _ (ys.take oc ++ [(⟨name, ats⟩ : EnS.En)]) (by rfl) hown8 _ [] (by rfl) hin (by rw [hl8]; simp; omega) hsz8 ?_))
                intro v3 w9 hown9 hb9 hg9
                go_wp2_with fail
                go_meet
                exact ⟨by rw [h1, List.append_nil]; exact hown9, hb68.trans hb9⟩
              · have hjc0 : ¬ oc - j = 0 := by omega
                have hin := SliceP.drop hds hj
                go_wp2_with (at_builtin; (refine push_ks enK 26 34 [9, 51] (by decide) Tryz.underlying34 HI.out hz0 hz1 hz2 (by rfl) (by rfl) _ _ (by rfl) w6.heap.size hC6 _ (ys.take j ++ [(⟨name, ats⟩ : EnS.En)]) (by rfl) hown8 _ (ys.drop j) (by rfl) hin (by rw [hl8, hdl]; omega) hsz8 ?_))
                intro v3 w9 hown9 hb9 hg9
                go_wp2_with fail
                go_meet
                exact ⟨by rw [List.append_assoc]; exact hown9, hb68.trans hb9⟩
            case rest =>
              obtain ⟨hown9, hb9⟩ := hcut
              obtain ⟨w9, rfl⟩ : ∃ x, x = wc := ⟨_, rfl⟩
              obtain ⟨n3, m3, rfl⟩ := hown9.form
              have hl9 : (ys.take j ++ [(⟨name, ats⟩ : EnS.En)] ++ ys.drop j).length = QL + 1 := by rw [List.length_append, hl8, hdl]; omega
              rw [hl9] at hown9 ⊢
              have hz9 := hz6.trans (hb9.mono hz6.size)
              have hC9 := hz9.size
              have hkq9 := hkq6.call hb9
              have hst9 := StrsP.callT hst6 hb9
              have b09 := keepC b0 hb9
              have b19 := keepC b1 hb9
              have hC69 := hb9.size
              have hQ9 := SliceP.take hkq9.read hj
              clear hown8 hb68 hown68 hds hb8 hgA hbA hownA haxA f0 f1 hb7 hown6 hax6 d0 d1 d07 d17 hg7 hg8 hkq6 hst6 b0 b1 hQ1
              go_wp2_with (at_builtin; (refine push_qs 118 116 (by decide) Tryz.underlying116 HJ.out jz0 jz1 (by omega) (by rfl) (by rfl) _ _ (by rfl) w9.heap.size hC9 _ [] (by rfl) (OwnQ.empty _ _ _ _) _ (qs.take j) (by rfl) hQ9 (by rw [htq]; simp; omega) (Nat.le_refl _) ?_))
              intro v4 wA hownA hbA hgA
              obtain ⟨n4, m4, rfl, _⟩ := hownA.form
              rw [htq] at hownA ⊢
              have b0A := keepC b09 hbA
              have b1A := keepC b19 hbA
              have hstA := StrsP.callT hst9 hbA
              have hgB := grow1 wA (.cells #[.slice va TL vc, .bool eb] 118)
              have hwB := Whole.made wA 118 #[.slice va TL vc, .bool eb]
              have hbB := hbA.trans (hgB.mono hbA.size)
              have hownB := hownA.call hgB
              have hstB := StrsP.callT hstA hgB
              have g0 := hwB.cell 0
              have g1 := hwB.cell 1
              have hszB := hbB.size
              simp only [List.getElem?_toArray, List.getElem?_cons_zero, List.getElem?_cons_succ] at g0 g1
              have hky := ky_one (C := w.heap.size) (x := (ts, eb)) hwB.lt g0 g1 hstB
              clear hownA hstA hwB
              go_wp2_with (at_builtin; (refine push_qs 118 116 (by decide) Tryz.underlying116 HJ.out jz0 jz1 (by omega) (by rfl) (by rfl) _ _ (by rfl) w9.heap.size hC9 _ (qs.take j) (by rfl) hownB _ [(ts, eb)] (by rfl) hky (by rw [htq]; simp; omega) hszB ?_))
              intro v5 wD hownD hbD hgD
              have hlD : (qs.take j ++ [((ts, eb) : Ky)]).length = j + 1 := by rw [List.length_append, htq]; rfl
              obtain ⟨n5, m5, rfl, _⟩ := hownD.form
              rw [hlD] at hownD ⊢
              have hb9D := hbB.trans hbD
              have hkqD := hkq9.call hb9D
              have hrd := hkqD.read
              have hszD := hb9D.size
              have hEN : ∀ (v6 : Value) (wF : World), OwnQ 118 wF w.heap.size w9.heap.size v6 (qs.take j ++ [((ts, eb) : Ky)] ++ qs.drop j) → Below w9.heap.size w9 wF → SrtdLoop xs w (.slice n3 (QL + 1) m3) v6 (.int .i64 ((k : Int) + 1)) wF := fun v6 wF h1 h2 =>
                ⟨k + 1, _, _, by omega, by go_num, (hown9.mono hC6).call h2, h1.mono hC9, HLY2.out, by rw [hl9]; omega, by rw [hl9, List.length_append, hlD, hdq]; omega, fun q hq => by
                  rcases List.mem_append.1 hq with hq | hq
                  · rcases List.mem_append.1 hq with hq | hq
                    · exact hq12 q (List.mem_of_mem_take hq)
                    · rw [List.mem_singleton] at hq; subst hq; show ts.length ≤ 12; omega
                  · exact hq12 q (List.mem_of_mem_drop hq), hz9.trans (h2.mono hz9.size)⟩
              have HEND := Lib.hid hEN
              clear hEN
              by_cases hjc : qc = j
              · subst hjc
                have h1 : qs.drop qc = [] := List.drop_eq_nil_of_le (by omega)
                have hin := SliceP.nil (k := 2) (El := KyAt w.heap.size) (ok := fun _ => True) (w := wD) qa 0
                go_wp2_with (at_builtin; (refine push_qs 118 116 (by decide) Tryz.underlying116 HJ.out jz0 jz1 (by omega) (by rfl) (by rfl) _ _ (by rfl) w9.heap.size hC9 _ (qs.take qc ++ [((ts, eb) : Ky)]) (by rfl) hownD _ [] (by rfl) hin (by rw [hlD]; simp; omega) hszD ?_))
                intro v6 wF hownF hbF hgF
                have hR := HEND.out v6 wF (by rw [h1, List.append_nil]; exact hownF) (hb9D.trans hbF)
                go_wp2_with fail
                go_roundw
                case rel => exact hR
                case measure => simp [intOf]; omega
              · have hjc0 : ¬ qc - j = 0 := by omega
                have hin := SliceP.drop hrd hj
                go_wp2_with (at_builtin; (refine push_qs 118 116 (by decide) Tryz.underlying116 HJ.out jz0 jz1 (by omega) (by rfl) (by rfl) _ _ (by rfl) w9.heap.size hC9 _ (qs.take j ++ [((ts, eb) : Ky)]) (by rfl) hownD _ (qs.drop j) (by rfl) hin (by rw [hlD, hdq]; omega) hszD ?_))
                intro v6 wF hownF hbF hgF
                have hR := HEND.out v6 wF (by rw [List.append_assoc]; exact hownF) (hb9D.trans hbF)
                go_wp2_with fail
                go_roundw
                case rel => exact hR
                case measure => simp [intOf]; omega
    · have hkl : k = xs.length := by omega
      subst hkl
      simp only [List.take_length] at hsub
      go_wp2_with fail
      go_ret
      exact ⟨_, ys, rfl, hown, hsub, hyl, hb⟩
end Go.Proofs.YtdcljilfnkmloaaGreatDoor
namespace Go.Proofs.YtdcljilfnkmloaaGreatDoor
open Go.RowKit

theorem parent_norm {n : List UInt8} (h0 : (DnS.parentS n).1 ≠ []) : DnS.normN (DnS.parentS n).1 = ((DnS.parentS n).1, 0) := by
  have hb : DnS.parentS n = ((DnS.parentS n).1, true) := by
    unfold DnS.parentS at h0 ⊢
    split at h0
    · exact absurd rfl h0
    · rename_i h9; rw [if_neg h9]
  generalize (DnS.parentS n).1 = p at *
  obtain ⟨_, t, ht, hp2, hj⟩ := DnS.parent_texts hb
  unfold DnS.normN
  rw [← hj, hp2]
theorem parent_short (n : List UInt8) : (DnS.parentS n).1.length ≤ 1000 := by
  by_cases h0 : (DnS.parentS n).1 = []
  · rw [h0]; simp
  · have h1 := DnS.norm_len (DnS.parentS n).1
    rw [parent_norm h0] at h1
    exact h1
theorem at_lt {xs : List EnS.En} {s : List UInt8} {i : Nat} (h : atI xs s = some i) : i < xs.length := by
  unfold atI at h
  split at h
  · exact (List.findIdx?_eq_some_iff_findIdx_eq.1 h).1
  · cases h
/-- has each entry its parent? -/
def HasUp (xs l : List EnS.En) : Prop := ∀ e ∈ l, (DnS.parentS e.name).1 ≠ [] → EnS.inS xs (DnS.parentS e.name).1 = true
theorem HasUp.snoc {xs : List EnS.En} {k : Nat} (hk : k < xs.length) (h : HasUp xs (xs.take k)) (hx : (DnS.parentS (xs[k]'hk).name).1 ≠ [] → EnS.inS xs (DnS.parentS (xs[k]'hk).name).1 = true) : HasUp xs (xs.take (k + 1)) := by
  rw [List.take_succ_eq_append_getElem hk]
  intro e he
  rcases List.mem_append.1 he with he | he
  · exact h e he
  · rw [List.mem_singleton] at he
    subst he
    exact hx
def AllF (l : List EnS.En) : Prop := ∀ e ∈ l, EnS.formedE e = true
theorem AllF.snoc {xs : List EnS.En} {k : Nat} (hk : k < xs.length) (h : AllF (xs.take k)) (hx : EnS.formedE (xs[k]'hk) = true) : AllF (xs.take (k + 1)) := by
  rw [List.take_succ_eq_append_getElem hk]
  intro e he
  rcases List.mem_append.1 he with he | he
  · exact h e he
  · rw [List.mem_singleton] at he
    subst he
    exact hx
theorem HasUp.sub {xs ys : List EnS.En} (h : HasUp xs xs) (hs : SubS xs ys) : HasUp ys ys := fun e he h0 => by
  have h1 := h e (hs.1 e he) h0
  unfold EnS.inS at h1 ⊢
  rw [List.any_eq_true] at h1 ⊢
  obtain ⟨x, hx, hn⟩ := h1
  obtain ⟨y, hy, hyn⟩ := hs.2 x hx
  exact ⟨y, hy, by rw [hyn]; exact hn⟩
/-- what comes back: none, or a tree: entries that are formed, each one's parent among them -/
def TreeRet (w : World) (e : Ending) (w' : World) : Prop :=
  (∃ c : Int, (c == 0) = false ∧ e = .returned (.tuple #[.pointer none, .int .i64 c]) ∧ Below w.heap.size w w')
  ∨ ∃ b v ys, e = .returned (.tuple #[.pointer (some ⟨b, 0, none⟩), .int .i64 0]) ∧ w'.cell? ⟨b, 0, none⟩ = some v ∧ b < w'.heap.size ∧ EnsIn w' v ys ∧ FitE ys ∧ TypsE ys ∧ AllF ys ∧ HasUp ys ys ∧ Below w.heap.size w w'
theorem TreeRet.no {w w' : World} (hb : Below w.heap.size w w') : TreeRet w (.returned (.tuple #[.pointer none, .int .i64 2])) w' := .inl ⟨2, rfl, rfl, hb⟩
set_option maxRecDepth 100000 in
set_option maxHeartbeats 4000000 in
theorem reftree_c (u : Value) (xs : List EnS.En) (w : World) (h : EnsIn w u xs) (hf : FitE xs) (hT : TypsE xs) (hE : Env w) :
    Calls Tryz.prog 16 #[u] w (TreeRet w) := by
  have HFM := Lib.hid (fun k (hk : k < xs.length) U W h hE => enrefformed_c (xs[k]'hk).name (xs[k]'hk).attrs U W hE h (hf.2 _ (List.getElem_mem hk)).2 (hf.2 _ (List.getElem_mem hk)).1 (hT _ (List.getElem_mem hk)))
  have HAL := Lib.hid (fun k (hk : k < xs.length) U W h hE => refalias_c (xs[k]'hk).name (xs[k]'hk).attrs U W hE h (hf.2 _ (List.getElem_mem hk)).2)
  have HNL := Lib.hid (fun k (hk : k < xs.length) => (hf.2 _ (List.getElem_mem hk)).1)
  have HIN := Lib.hid (fun W (hb : Below w.heap.size w W) => EnsP.call h hb)
  have HEN := Lib.hid (fun W (hb : Below w.heap.size w W) => hE.below hb)
  have HAF := Lib.hid (fun k (hk : k < xs.length) h hx => AllF.snoc (xs := xs) (k := k) hk h hx)
  have HUP := Lib.hid (fun k (hk : k < xs.length) h hx => HasUp.snoc (xs := xs) (k := k) hk h hx)
  have HF := Lib.hid hf
  have HT := Lib.hid hT
  unfold NmBool at HFM
  unfold NmPar at HAL
  obtain ⟨a, c, rfl, hc, hat⟩ := SliceP.at h
  have HAT := Lib.hid hat
  have hatc := fun n W hE h (hn : n.length ≤ 1000000) => at_c (.slice a xs.length c) xs n W hE h hf.1 hn
  have hxl : xs.length ≤ 1048576 := hf.1
  unfold IdxRetI at hatc
  clear hat h hE hf hT
  go_enter Tryz.func16, Tryz.ntmps16
  by_cases h4 : 400 < xs.length
  · have h4i : decide ((400 : Int) < (xs.length : Int)) = true := decide_eq_true (by omega)
    go_wp2_with fail
    go_ret2
    exact TreeRet.no (Below.refl _ _)
  have h4i : decide ((400 : Int) < (xs.length : Int)) = false := decide_eq_false (by omega)
  go_wp2_with fail
  go_loopw [16] (fun i wr => ∃ k : Nat, k ≤ xs.length ∧ i = .int .i64 k ∧ Hid (AllF (xs.take k)) ∧ Below w.heap.size w wr) (fun i _ => xs.length - (intOf i).toNat)
  case atStart => exact ⟨0, Nat.zero_le _, rfl, Lib.hid (fun e he => by cases he), Below.refl _ _⟩
  case round =>
    obtain ⟨k, hk, rfl, HA, hb⟩ := hrel
    by_cases hlt : k < xs.length
    · obtain ⟨g, o, rfl, hg, _, hra⟩ := HAT.out k hlt
      obtain ⟨c0, a2, p2, c1, hp2, hax⟩ := EnAt.parts (EnAt.call hra hg trivial hb)
      have hfm := HFM.out k hlt _ wr hax (HEN.out _ hb)
      have hnl := HNL.out k hlt
      have HZ := Lib.hid (fun hx => HAF.out k hlt HA.out hx)
      clear hra hax HFM HAL HNL HAT HAF HUP HA
      generalize xs[k] = x at *
      obtain ⟨name, ats⟩ := x
      simp only at c0 c1 hp2 hfm hnl
      have hl0 : (0 : Int) ≤ (k : Int) := by omega
      have hl1 : (k : Int) < (xs.length : Int) := by omega
      generalize EnS.formedE ⟨name, ats⟩ = F at *
      generalize ats.length = L at *
      go_wp2_with fail
      refine hfm.mono ?_; rintro e w1 ⟨rfl, hb1⟩
      have hz1 := hb.trans (hb1.mono hb.size)
      have e0 := keepC c0 hb1
      cases F with
      | false =>
        go_wp2_with fail
        go_ret2
        exact TreeRet.no hz1
      | true =>
        have hat1 := hatc name w1 (HEN.out _ hz1) (HIN.out _ hz1) hnl
        generalize idxI (atI xs name) = z at *
        have HZ2 := Lib.hid (HZ.out (by trivial))
        clear HZ hfm hatc
        go_wp2_with fail
        refine hat1.mono ?_; rintro e w2 ⟨rfl, hb2⟩
        have hz2 := hz1.trans (hb2.mono hz1.size)
        cases hzk : (z != (k : Int)) with
        | true =>
          go_wp2_with fail
          go_ret2
          exact TreeRet.no hz2
        | false =>
          go_wp2_with fail
          go_roundw
          case rel => exact ⟨k + 1, by omega, by go_num, HZ2, hz2⟩
          case measure => simp [intOf]; omega
    · have hkl : k = xs.length := by omega
      subst hkl
      have HALL : Hid (AllF xs) := Lib.hid (by have := HA.out; rwa [List.take_length] at this)
      clear HA HFM HAF hk hlt
      go_wp2_with fail
      go_loopw [39] (fun i wr => ∃ k : Nat, k ≤ xs.length ∧ i = .int .i64 k ∧ Hid (HasUp xs (xs.take k)) ∧ Below w.heap.size w wr) (fun i _ => xs.length - (intOf i).toNat)
      case atStart => exact ⟨0, Nat.zero_le _, rfl, Lib.hid (fun e he => by cases he), hb⟩
      case round =>
        obtain ⟨k, hk, rfl, HA, hb⟩ := hrel
        by_cases hlt : k < xs.length
        · obtain ⟨g, o, rfl, hg, _, hra⟩ := HAT.out k hlt
          obtain ⟨c0, a2, p2, c1, hp2, hax⟩ := EnAt.parts (EnAt.call hra hg trivial hb)
          have hnl := HNL.out k hlt
          have hpar := rnparent_c (xs[k]'hlt).name hnl wr (HEN.out _ hb)
          unfold NmPar at hpar
          have HZ := Lib.hid (fun hx => HUP.out k hlt HA.out hx)
          have HPN := Lib.hid (fun h0 => parent_norm (n := (xs[k]'hlt).name) h0)
          have hps := parent_short (xs[k]'hlt).name
          clear hra hax HNL HUP HA c1 hp2
          generalize xs[k] = x at *
          obtain ⟨name, ats⟩ := x
          simp only at c0 hnl hpar HPN hps
          have hl0 : (0 : Int) ≤ (k : Int) := by omega
          have hl1 : (k : Int) < (xs.length : Int) := by omega
          generalize DnS.parentS name = PN at *
          obtain ⟨p, pb⟩ := PN
          simp only at hpar HPN hps HZ
          go_wp2_with fail
          refine hpar.mono ?_; rintro e w1 ⟨rfl, hb1⟩
          have hz1 := hb.trans (hb1.mono hb.size)
          clear hpar
          cases p with
          | nil =>
            have HZ2 := Lib.hid (HZ.out (fun h0 => absurd rfl h0))
            clear HZ HPN
            go_wp2_with fail
            go_roundw
            case rel => exact ⟨k + 1, by omega, by go_num, HZ2, hz1⟩
            case measure => simp [intOf]; omega
          | cons p0 pr =>
            have HIS := Lib.hid (at_in (xs := xs) (HPN.out (by simp)))
            have HLT := Lib.hid (fun i h => at_lt (xs := xs) (s := p0 :: pr) (i := i) h)
            have hat1 := hatc (p0 :: pr) w1 (HEN.out _ hz1) (HIN.out _ hz1) (by omega)
            clear HPN hatc
            generalize EnS.inS xs (p0 :: pr) = IS at *
            generalize hpp : p0 :: pr = pp at *
            have hpe : pp.isEmpty = false := by subst hpp; rfl
            have hpe2 : (pp == []) = false := by subst hpp; rfl
            have hpe3 : ¬ pp = [] := by subst hpp; simp
            clear hpp
            generalize atI xs pp = R at *
            go_wp2_with fail
            refine hat1.mono ?_; rintro e w2 ⟨rfl, hb2⟩
            have hz2 := hz1.trans (hb2.mono hz1.size)
            cases R with
            | none =>
              have hneg : decide (idxI none < 0) = true := rfl
              go_wp2_with fail
              go_ret2
              exact TreeRet.no hz2
            | some i1 =>
              have hix : idxI (some i1) = (i1 : Int) := rfl
              rw [hix]
              have hneg : decide ((i1 : Int) < 0) = false := decide_eq_false (by omega)
              have hi1 := HLT.out i1 rfl
              obtain ⟨g1, o1, hg1, hgl, _, hrb⟩ := HAT.out i1 hi1
              cases hg1
              obtain ⟨q0, a3, p3, q1, hp3, hay⟩ := EnAt.parts (EnAt.call hrb hgl trivial hz2)
              have hal := HAL.out i1 hi1 _ w2 hay (HEN.out _ hz2)
              have HZ2 := Lib.hid (HZ.out (fun _ => by rw [← HIS.out]; rfl))
              clear hrb hay HAT HAL HIS HLT HZ hat1
              generalize xs[i1] = y at *
              obtain ⟨nm, as3⟩ := y
              simp only at q0 q1 hp3 hal
              generalize EnS.aliasS ⟨nm, as3⟩ = AL at *
              obtain ⟨al, ab⟩ := AL
              simp only at hal
              generalize as3.length = L3 at *
              have hm0 : (0 : Int) ≤ (i1 : Int) := by omega
              have hm1 : (i1 : Int) < (xs.length : Int) := by omega
              go_wp2_with fail
              refine hal.mono ?_; rintro e w3 ⟨rfl, hb3⟩
              have hz3 := hz2.trans (hb3.mono hz2.size)
              cases ab with
              | true =>
                go_wp2_with fail
                go_ret2
                exact TreeRet.no hz3
              | false =>
                go_wp2_with fail
                go_roundw
                case rel => exact ⟨k + 1, by omega, by go_num, HZ2, hz3⟩
                case measure => simp [intOf]; omega
        · have hkl : k = xs.length := by omega
          subst hkl
          have HUPA : Hid (HasUp xs xs) := Lib.hid (by have := HA.out; rwa [List.take_length] at this)
          have hso := sorted_c (.slice a xs.length c) xs wr (HIN.out _ hb) HF.out (HEN.out _ hb)
          unfold SortRet at hso
          clear HA HAT HAL HNL hatc
          go_wp2_with fail
          refine hso.mono ?_; rintro e w1 ⟨v1, ys, rfl, hown1, hsub, hyl, hb1⟩
          have hz1 := hb.trans (hb1.mono hb.size)
          have hfy : FitE ys := ⟨by have := HF.out.1; omega, fun x hx => HF.out.2 x (hsub.1 x hx)⟩
          have HFY := Lib.hid hfy
          have HTY : Hid (TypsE ys) := Lib.hid (fun x hx => HT.out x (hsub.1 x hx))
          have HAY : Hid (AllF ys) := Lib.hid (fun x hx => HALL.out x (hsub.1 x hx))
          have HUY := Lib.hid (HUPA.out.sub hsub)
          have hcp := refcopyall_c v1 ys w1 hown1.ens hfy
          unfold OfRet at hcp
          obtain ⟨a1, c1, rfl, _⟩ := SliceP.form hown1.ens
          clear hso hsub hown1 hfy HALL HUPA HF HT
          go_wp2_with fail
          refine hcp.mono ?_; rintro e w2 ⟨v2, rfl, hown2, hb2⟩
          have hz2 := hz1.trans (hb2.mono hz1.size)
          have hen2 := hown2.ens
          obtain ⟨a3, c3, rfl, _⟩ := SliceP.form hen2
          have hgT := grow1 w2 (.cells #[.slice a3 ys.length c3] 43)
          have hwT := Whole.made w2 43 #[.slice a3 ys.length c3]
          have hz3 := hz2.trans (hgT.mono hz2.size)
          have b0 := hwT.cell 0
          simp only [List.getElem?_toArray, List.getElem?_cons_zero] at b0
          have hbt := hwT.lt
          have hen3 := EnsP.call hen2 hgT
          clear hcp hown2 hwT hen2
          go_wp2_with fail
          go_ret2
          exact .inr ⟨_, _, ys, rfl, b0, hbt, hen3, HFY.out, HTY.out, HAY.out, HUY.out, hz3⟩
end Go.Proofs.YtdcljilfnkmloaaGreatDoor
