/- The walks of slices.Grow of the nil slice of texts and of slices.Concat of two. Conditions: at most 1000 texts each. The walks of Move of a name, the program's and the document's. Conditions: the texts have at most 1000000 bytes; the library's variables are laid. -/
import Derived.Test.YtifjghkgmfmneaaGreatDoorDni
import Derived.Lib.AppendZeros
import Derived.Maps.AppendAt
import Derived.Test.YtifjghkgmfmneaaGreatDoorDnv
namespace Go.Proofs.YtifjghkgmfmneaaGreatDoor
open Go.RowKit

def OwnRet (w : World) (xs : List (List UInt8)) (e : Ending) (w' : World) : Prop := ∃ v, e = .returned v ∧ Own w' w.heap.size v xs ∧ Below w.heap.size w w'
set_option maxRecDepth 100000 in
theorem grow_c (n : Nat) (hn : n ≤ 1000000) (w : World) : Calls Tryz.prog 217 #[.slice none 0 0, .int .i64 n] w (OwnRet w []) := by
  rcases Nat.eq_zero_or_pos n with h0 | hpos
  · subst h0
    go_enter Tryz.func217, Tryz.ntmps217
    go_wp2_with fail
    go_ret
    exact ⟨_, rfl, Own.empty _ _, Below.refl _ _⟩
  · have h1 : ¬ ((n : Int) < 0) := by omega
    have h4 : (0 : Int) < (n : Int) := by omega
    obtain ⟨i0, hi, hz0, hz1, hz2⟩ := info_parts infoStr
    have hrz := fun ty => Lib.run_append_nil_zeros (P := Tryz.prog) w 45 3 ty 9 i0 (.string ⟨#[]⟩) .i64 .i64 Tryz.underlying45 Tryz.underlying3 hi hz0 n hpos (by omega) (by omega) (by rw [hz2]; omega)
    obtain ⟨G, hG⟩ : ∃ G, G = grownCap w n 0 9 := ⟨_, rfl⟩
    have hGn : n ≤ G := by rw [hG]; exact grownCap_ge w _ _ _
    have hGm : G ≤ maxLen := by rw [hG]; exact grownCap_le_maxLen w _ _ _ (by unfold maxLen; omega)
    rw [← hG] at hrz
    have hG63 : G ≤ 9223372036854775807 := by unfold maxLen at hGm; omega
    have HGM := Lib.hid hGm
    have HR := Lib.hid hrz
    clear hG hi hrz hz0 hz1 hz2 hGm
    have hz : (Builtin.zeroCells (Value.string ⟨#[]⟩).cells n ++ Builtin.zeroCells (Value.string ⟨#[]⟩).cells (G - n)).size = G * 1 := by
      rw [Array.size_append, size_zeroCells, size_zeroCells]
      show n * 1 + (G - n) * 1 = G * 1
      omega
    have HZ := Lib.hid hz
    clear hz
    generalize Builtin.zeroCells (Value.string ⟨#[]⟩).cells n ++ Builtin.zeroCells (Value.string ⟨#[]⟩).cells (G - n) = Z at *
    go_enter Tryz.func217, Tryz.ntmps217
    go_wp2_with (at_builtin; refine Lib.wpList_append_run _ (by rfl) _ _ _ _ (by rfl) _ _ (by rfl) (by rfl) _ _ (HR.out _) ?_)
    go_ret
    refine ⟨_, rfl, ⟨rfl, .inr ⟨w.heap.size, G, Z, rfl, Nat.le_refl _, ?_, Nat.zero_le _, HGM.out, HZ.out, rfl⟩⟩, (Below.refl _ _).drew.alloc (Nat.le_refl _) _⟩
    show (w.heap.push _)[w.heap.size]? = _
    rw [Array.getElem?_push_size]

set_option maxRecDepth 100000 in
set_option maxHeartbeats 1000000 in
theorem concat_c (b : Nat) (v1 v2 : Value) (xs ys : List (List UInt8)) (w : World) (hb : b < w.heap.size) (hc0 : w.cell? ⟨b, 0, none⟩ = some v1) (hc1 : w.cell? ⟨b, 1, none⟩ = some v2) (h1 : StrsIn w v1 xs) (h2 : StrsIn w v2 ys) (hl : xs.length ≤ 1000) (hl2 : ys.length ≤ 1000) : Calls Tryz.prog 176 #[.slice (some ⟨b, 0, none⟩) 2 2] w (OwnRet w (xs ++ ys)) := by
  have hgr := grow_c (xs.length + ys.length) (by omega) w
  obtain ⟨a1, c1, rfl⟩ := h1.form
  obtain ⟨a2, c2, rfl⟩ := h2.form
  have H1 := Lib.hid h1
  have H2 := Lib.hid h2
  clear h1 h2
  have hk : ((xs.length + ys.length : Nat) : Int) = (xs.length : Int) + (ys.length : Int) := by omega
  rw [hk] at hgr
  generalize hn : xs.length = n at *
  generalize hm : ys.length = m at *
  have HN := Lib.hid hn
  have HM := Lib.hid hm
  clear hn hm hk
  have hs1 : ¬ ((n : Int) < 0) := by omega
  have hs2 : ¬ ((n : Int) + (m : Int) < 0) := by omega
  go_enter Tryz.func176, Tryz.ntmps176
  go_wp2_with fail
  refine wp_loop_rounds 3 ?_
  repeat any_goals (rw [rounds_succ]; go_wp2_with fail)
  refine hgr.mono ?_; rintro e w1 ⟨v0, rfl, ho0, hb1⟩
  have d0 : w1.cell? ⟨b, 0, none⟩ = some (.slice a1 n c1) := keepC hc0 hb1
  have d1 : w1.cell? ⟨b, 1, none⟩ = some (.slice a2 m c2) := keepC hc1 hb1
  have hsz := hb1.size
  clear hgr hs1 hs2
  go_wp2_with fail
  refine wp_loop_rounds 3 ?_
  rw [rounds_succ]
  go_wp2_with (at_builtin; refine push_strs (by rfl) _ _ (by rfl) w.heap.size _ [] (by rfl) ho0 _ xs (by rfl) (H1.out.call hb1 (Nat.le_refl _)) ?e1 ?e2 ?_)
  case e1 => rw [HN.out]; simp; omega
  case e2 => omega
  intro v3 w3 ho3 hb3
  have d2 : w3.cell? ⟨b, 1, none⟩ = some (.slice a2 m c2) := (hb3.cell (p := ⟨b, 1, none⟩) hb).trans d1
  have hsz3 := hb3.size
  have HO3 := Lib.hid ho3
  have hbb := hb1.trans hb3
  clear ho3 d0 d1
  go_wp2_with fail
  rw [rounds_succ]
  go_wp2_with (at_builtin; refine push_strs (by rfl) _ _ (by rfl) w.heap.size _ xs (by rfl) HO3.out _ ys (by rfl) (H2.out.call hbb (Nat.le_refl _)) ?f1 ?f2 ?_)
  case f1 => rw [HN.out, HM.out]; omega
  case f2 => omega
  intro v4 w4 ho4 hb4
  have HO4 := Lib.hid ho4
  clear ho4
  go_wp2_with fail
  rw [rounds_succ]
  go_wp2_with fail
  go_ret
  exact ⟨_, rfl, HO4.out, hbb.trans hb4⟩
end Go.Proofs.YtifjghkgmfmneaaGreatDoor
namespace Go.Proofs.YtifjghkgmfmneaaGreatDoor
open Go.RowKit

theorem move_1 {s fr dst : List UInt8} {t : List (List UInt8)} {e : Int} (h : DnS.textsS s = (t, e)) (he : e ≠ 0) : DnS.moveS s fr dst = ([], e) := by unfold DnS.moveS; rw [h, if_neg he]
theorem move_2 {s fr dst : List UInt8} {t u : List (List UInt8)} {e : Int} (h : DnS.textsS s = (t, 0)) (k : DnS.textsS fr = (u, e)) (he : e ≠ 0) : DnS.moveS s fr dst = ([], e) := by unfold DnS.moveS; rw [h, k, if_pos rfl, if_neg he]
theorem move_3 {s fr dst : List UInt8} {t u v : List (List UInt8)} {e : Int} (h : DnS.textsS s = (t, 0)) (k : DnS.textsS fr = (u, 0)) (l : DnS.textsS dst = (v, e)) (he : e ≠ 0) : DnS.moveS s fr dst = ([], e) := by unfold DnS.moveS; rw [h, k, l, if_pos rfl, if_pos rfl, if_neg he]
theorem move_no {s fr dst : List UInt8} {t u v : List (List UInt8)} (h : DnS.textsS s = (t, 0)) (k : DnS.textsS fr = (u, 0)) (l : DnS.textsS dst = (v, 0)) (hr : DnS.belowS t u = none) : DnS.moveS s fr dst = ([], 1) := by unfold DnS.moveS; rw [h, k, l, if_pos rfl, if_pos rfl, if_pos rfl, hr]
theorem move_yes {s fr dst : List UInt8} {t u v r : List (List UInt8)} (h : DnS.textsS s = (t, 0)) (k : DnS.textsS fr = (u, 0)) (l : DnS.textsS dst = (v, 0)) (hr : DnS.belowS t u = some r) : DnS.moveS s fr dst = DnS.fitS (r ++ v) := by unfold DnS.moveS; rw [h, k, l, if_pos rfl, if_pos rfl, if_pos rfl, hr]
theorem below_part {t u r v : List (List UInt8)} {M : Nat} (hr : DnS.belowS t u = some r) (h1 : ∀ x ∈ t, x.length ≤ M) (h2 : ∀ x ∈ v, x.length ≤ M) (hl : t.length ≤ 12) (hl2 : v.length ≤ 12) : (∀ x ∈ r ++ v, x.length ≤ M) ∧ (r ++ v).length ≤ 24 ∧ r.length ≤ 12 := by
  have h := DnS.below_iff.1 hr
  subst h
  rw [List.length_append] at hl
  refine ⟨fun x hx => ?_, by rw [List.length_append]; omega, by omega⟩
  rcases List.mem_append.1 hx with hx | hx
  · exact h1 x (List.mem_append_left _ hx)
  · exact h2 x hx

set_option maxRecDepth 100000 in
set_option maxHeartbeats 2000000 in
theorem dnmove_c (a b c : List UInt8) (ha : a.length ≤ 1000000) (hb0 : b.length ≤ 1000000) (hc0 : c.length ≤ 1000000) (w : World) (hE : Env w) : Calls Tryz.prog 161 #[.string ⟨a.toArray⟩, .string ⟨b.toArray⟩, .string ⟨c.toArray⟩] w (NmTxt (DnS.moveS a b c) w) := by
  have hp := fun w hE => dnparts_c a ha w hE
  have hq := fun w hE => dnparts_c b hb0 w hE
  have hr := fun w hE => dnparts_c c hc0 w hE
  unfold PartsRet at hp hq hr
  have hla := (DnS.texts_len a).1
  have hlb := (DnS.texts_len b).1
  have hlc := (DnS.texts_len c).1
  have HEA := Lib.hid (DnS.texts_each (s := a))
  have HEC := Lib.hid (DnS.texts_each (s := c))
  obtain ⟨X, hX⟩ : ∃ X, DnS.textsS a = X := ⟨_, rfl⟩
  obtain ⟨Y, hY⟩ : ∃ Y, DnS.textsS b = Y := ⟨_, rfl⟩
  obtain ⟨Z, hZ⟩ : ∃ Z, DnS.textsS c = Z := ⟨_, rfl⟩
  rw [hX] at hp hla HEA
  rw [hY] at hq hlb
  rw [hZ] at hr hlc HEC
  obtain ⟨tx, ex⟩ := X
  obtain ⟨ty, ey⟩ := Y
  obtain ⟨tz, ez⟩ := Z
  simp only at hp hq hr hla hlb hlc HEA HEC
  have HX := Lib.hid hX
  have HY := Lib.hid hY
  have HZ := Lib.hid hZ
  clear hX hY hZ
  have hwa := Whole.made w 243 #[.slice none 0 0, .slice none 0 0, .slice none 0 0]
  have hba := grow1 w (.cells #[.slice none 0 0, .slice none 0 0, .slice none 0 0] 243)
  generalize hwA : w.alloc (.cells #[.slice none 0 0, .slice none 0 0, .slice none 0 0] 243) = wA at *
  have hszA : wA.heap.size = w.heap.size + 1 := by rw [← hwA]; simp
  have hwb := Whole.made wA 9 #[strV a, strV b, strV c]
  have hbB := hba.alloc (by omega) (.cells #[strV a, strV b, strV c] 9)
  have hwa0 := hwa.alloc (.cells #[strV a, strV b, strV c] 9)
  unfold strV at hwb hbB hwa0
  rw [hszA] at hwb
  generalize hwB : wA.alloc (.cells #[.string ⟨a.toArray⟩, .string ⟨b.toArray⟩, .string ⟨c.toArray⟩] 9) = wB at *
  have hszB : wB.heap.size = w.heap.size + 2 := by rw [← hwB]; simp; omega
  have hEB := hE.below hbB
  have HWB := Lib.hid hszB
  have c0 : wB.cell? ⟨w.heap.size + 1, 0, none⟩ = some (.string ⟨a.toArray⟩) := hwb.cell 0
  go_enter Tryz.func161, Tryz.ntmps161
  go_wp2_with fail
  (try simp only [hwB])
  clear hwA hwa hba hszA hwB hszB
  refine wp_loop_rounds 4 ?_
  rw [rounds_succ]
  go_wp2_with fail
  refine (hp _ hEB).mono ?_; rintro e w1 ⟨v1, rfl, ho1, hb1⟩
  have hwaw1 := hwa0.call hb1
  have hwbw1 := hwb.call hb1
  have hbw1 := hbB.trans (hb1.mono hbB.size)
  have hs1 := hb1.size
  obtain ⟨a1, n1, m1, hv1⟩ : ∃ a n m, v1 = .slice a n m := by
    obtain ⟨a, m, e⟩ := ho1.form
    exact ⟨a, _, m, e⟩
  have q1 : w1.cell? ⟨w.heap.size, 0, none⟩ = some (.slice none 0 0) := hwaw1.cell 0
  have p1 : w1.frozen? ⟨w.heap.size, 0, none⟩ = false := hwaw1.thaw 0
  subst hv1
  by_cases hx1 : ex = 0
  case neg =>
    have HR := Lib.hid (move_1 (fr := b) (dst := c) HX.out hx1)
    have hez : (ex != 0) = true := by simpa using hx1
    have HBW := Lib.hid hbw1
    go_wp2_with fail
    go_ret2
    exact NmTxt.mk' HR.out (HBW.out.setCell (Nat.le_refl _) _)
  subst hx1
  go_wp2_with fail
  rw [rounds_succ]
  have hwau1 := hwaw1.put 0 (.slice a1 n1 m1)
  have hwbu1 := hwbw1.other (p := ⟨w.heap.size, 0, none⟩) (by show w.heap.size + 1 ≠ w.heap.size; omega) (.slice a1 n1 m1)
  have hbu1 := hbw1.setCell (p := ⟨w.heap.size, 0, none⟩) (Nat.le_refl _) (.slice a1 n1 m1)
  have ho1u1 : Own (w1.setCell ⟨w.heap.size, 0, none⟩ (.slice a1 n1 m1)) wB.heap.size (.slice a1 n1 m1) tx := (ho1).kept (fun q hq => Below.heap_setCell _ _ _ _ (by
    have := (ownBlock_lt (ho1) hq).1
    have h2 := HWB.out
    show q ≠ w.heap.size
    omega))
  have hsu1 : (w1.setCell ⟨w.heap.size, 0, none⟩ (.slice a1 n1 m1)).heap.size = w1.heap.size := by simp [World.setCell]
  generalize hwu1 : w1.setCell ⟨w.heap.size, 0, none⟩ (.slice a1 n1 m1) = u1 at *
  have hE1 := hE.below hbu1
  have c1 : u1.cell? ⟨w.heap.size + 1, 1, none⟩ = some (.string ⟨b.toArray⟩) := hwbu1.cell 1
  clear q1 p1 hwu1
  go_wp2_with fail
  refine (hq _ hE1).mono ?_; rintro e w2 ⟨v2, rfl, ho2, hb2⟩
  have hwaw2 := hwau1.call hb2
  have hwbw2 := hwbu1.call hb2
  have hbw2 := hbu1.trans (hb2.mono hbu1.size)
  have hs2 := hb2.size
  obtain ⟨a2, n2, m2, hv2⟩ : ∃ a n m, v2 = .slice a n m := by
    obtain ⟨a, m, e⟩ := ho2.form
    exact ⟨a, _, m, e⟩
  have q2 : w2.cell? ⟨w.heap.size, 1, none⟩ = some (.slice none 0 0) := hwaw2.cell 1
  have p2 : w2.frozen? ⟨w.heap.size, 1, none⟩ = false := hwaw2.thaw 1
  subst hv2
  by_cases hx2 : ey = 0
  case neg =>
    have HR := Lib.hid (move_2 (dst := c) HX.out HY.out hx2)
    have hez : (ey != 0) = true := by simpa using hx2
    have HBW := Lib.hid hbw2
    go_wp2_with fail
    go_ret2
    exact NmTxt.mk' HR.out (HBW.out.setCell (Nat.le_refl _) _)
  subst hx2
  go_wp2_with fail
  rw [rounds_succ]
  have hwau2 := hwaw2.put 1 (.slice a2 n2 m2)
  have hwbu2 := hwbw2.other (p := ⟨w.heap.size, 1, none⟩) (by show w.heap.size + 1 ≠ w.heap.size; omega) (.slice a2 n2 m2)
  have hbu2 := hbw2.setCell (p := ⟨w.heap.size, 1, none⟩) (Nat.le_refl _) (.slice a2 n2 m2)
  have ho1u2 : Own (w2.setCell ⟨w.heap.size, 1, none⟩ (.slice a2 n2 m2)) wB.heap.size (.slice a1 n1 m1) tx := (ho1u1.call hb2).kept (fun q hq => Below.heap_setCell _ _ _ _ (by
    have := (ownBlock_lt (ho1u1.call hb2) hq).1
    have h2 := HWB.out
    show q ≠ w.heap.size
    omega))
  have ho2u2 : Own (w2.setCell ⟨w.heap.size, 1, none⟩ (.slice a2 n2 m2)) u1.heap.size (.slice a2 n2 m2) ty := (ho2).kept (fun q hq => Below.heap_setCell _ _ _ _ (by
    have := (ownBlock_lt (ho2) hq).1
    have h2 := HWB.out
    show q ≠ w.heap.size
    omega))
  have hsu2 : (w2.setCell ⟨w.heap.size, 1, none⟩ (.slice a2 n2 m2)).heap.size = w2.heap.size := by simp [World.setCell]
  generalize hwu2 : w2.setCell ⟨w.heap.size, 1, none⟩ (.slice a2 n2 m2) = u2 at *
  have hE2 := hE.below hbu2
  have c2 : u2.cell? ⟨w.heap.size + 1, 2, none⟩ = some (.string ⟨c.toArray⟩) := hwbu2.cell 2
  clear q2 p2 hwu2
  go_wp2_with fail
  refine (hr _ hE2).mono ?_; rintro e w3 ⟨v3, rfl, ho3, hb3⟩
  have hwaw3 := hwau2.call hb3
  have hwbw3 := hwbu2.call hb3
  have hbw3 := hbu2.trans (hb3.mono hbu2.size)
  have hs3 := hb3.size
  obtain ⟨a3, n3, m3, hv3⟩ : ∃ a n m, v3 = .slice a n m := by
    obtain ⟨a, m, e⟩ := ho3.form
    exact ⟨a, _, m, e⟩
  have q3 : w3.cell? ⟨w.heap.size, 2, none⟩ = some (.slice none 0 0) := hwaw3.cell 2
  have p3 : w3.frozen? ⟨w.heap.size, 2, none⟩ = false := hwaw3.thaw 2
  subst hv3
  by_cases hx3 : ez = 0
  case neg =>
    have HR := Lib.hid (move_3 HX.out HY.out HZ.out hx3)
    have hez : (ez != 0) = true := by simpa using hx3
    have HBW := Lib.hid hbw3
    go_wp2_with fail
    go_ret2
    exact NmTxt.mk' HR.out (HBW.out.setCell (Nat.le_refl _) _)
  subst hx3
  go_wp2_with fail
  rw [rounds_succ]
  have hwau3 := hwaw3.put 2 (.slice a3 n3 m3)
  have hbu3 := hbw3.setCell (p := ⟨w.heap.size, 2, none⟩) (Nat.le_refl _) (.slice a3 n3 m3)
  have ho1u3 : Own (w3.setCell ⟨w.heap.size, 2, none⟩ (.slice a3 n3 m3)) wB.heap.size (.slice a1 n1 m1) tx := (ho1u2.call hb3).kept (fun q hq => Below.heap_setCell _ _ _ _ (by
    have := (ownBlock_lt (ho1u2.call hb3) hq).1
    have h2 := HWB.out
    show q ≠ w.heap.size
    omega))
  have ho2u3 : Own (w3.setCell ⟨w.heap.size, 2, none⟩ (.slice a3 n3 m3)) u1.heap.size (.slice a2 n2 m2) ty := (ho2u2.call hb3).kept (fun q hq => Below.heap_setCell _ _ _ _ (by
    have := (ownBlock_lt (ho2u2.call hb3) hq).1
    have h2 := HWB.out
    show q ≠ w.heap.size
    omega))
  have ho3u3 : Own (w3.setCell ⟨w.heap.size, 2, none⟩ (.slice a3 n3 m3)) u2.heap.size (.slice a3 n3 m3) tz := (ho3).kept (fun q hq => Below.heap_setCell _ _ _ _ (by
    have := (ownBlock_lt (ho3) hq).1
    have h2 := HWB.out
    show q ≠ w.heap.size
    omega))
  have hsu3 : (w3.setCell ⟨w.heap.size, 2, none⟩ (.slice a3 n3 m3)).heap.size = w3.heap.size := by simp [World.setCell]
  generalize hwu3 : w3.setCell ⟨w.heap.size, 2, none⟩ (.slice a3 n3 m3) = u3 at *
  have hE3 := hE.below hbu3
  have d0 : u3.cell? ⟨w.heap.size, 0, none⟩ = some (.slice a1 n1 m1) := hwau3.cell 0
  have d1 : u3.cell? ⟨w.heap.size, 1, none⟩ = some (.slice a2 n2 m2) := hwau3.cell 1
  clear q3 p3 hwu3
  go_wp2_with fail
  refine (dnrest_c _ _ tx ty _ _ ho1u3 ho2u3.strs (by omega) (by omega)).mono ?_; rintro e w4 ⟨v4, rfl, hv4, hb4⟩
  have hbw4 := hbu3.trans (hb4.mono hbu3.size)
  have hwaw4 := hwau3.call hb4
  have hoz4 := ho3u3.call hb4
  have d2 : w4.cell? ⟨w.heap.size, 2, none⟩ = some (.slice a3 n3 m3) := hwaw4.cell 2
  have HNO := Lib.hid (move_no HX.out HY.out HZ.out)
  have HYES := Lib.hid (fun r => move_yes (r := r) HX.out HY.out HZ.out)
  have HPT := Lib.hid (fun r (h : DnS.belowS tx ty = some r) => below_part (M := 3000) h HEA.out HEC.out hla hlc)
  clear hp hq hr HX HY HZ d0 d1
  generalize DnS.belowS tx ty = R at *
  cases R with
  | none =>
    have HR := Lib.hid (HNO.out rfl)
    clear HNO HYES HPT
    go_wp2_with fail
    go_ret2
    exact NmTxt.mk' HR.out hbw4
  | some r =>
    have HR := Lib.hid (HYES.out r rfl)
    obtain ⟨hp1, hp2, hp3⟩ := HPT.out r rfl
    have hjb := join_bound hp1 (by omega)
    have hv5 : StrsIn w4 v4 r := hv4
    obtain ⟨a4, n4, m4, hv6⟩ : ∃ a n m, v4 = .slice a n m := by
      obtain ⟨a, m, e⟩ := hv5.form
      exact ⟨a, _, m, e⟩
    subst hv6
    have hwc := Whole.made w4 45 #[.slice a4 n4 m4, .slice a3 n3 m3]
    have hbc := grow1 w4 (.cells #[.slice a4 n4 m4, .slice a3 n3 m3] 45)
    have hcc := concat_c w4.heap.size (.slice a4 n4 m4) (.slice a3 n3 m3) r tz _ hwc.lt (hwc.cell 0) (hwc.cell 1) (hv5.call hbc (Nat.le_refl _)) ((hoz4.call hbc).strs) (by omega) (by omega)
    have HJB := Lib.hid hjb
    have HBC := Lib.hid (hbw4.trans (hbc.mono hbw4.size))
    clear HNO HYES HPT hp1 hv4 hwc hjb hbc
    go_wp2_with fail
    refine hcc.mono ?_; rintro e w6 ⟨v6, rfl, ho6, hb6⟩
    have HB6 := Lib.hid (HBC.out.trans (hb6.mono HBC.out.size))
    go_wp2_with fail
    refine (fit_c _ _ _ ho6.strs (by omega) (by have := HJB.out; omega)).mono ?_; rintro e w8 ⟨rfl, hb8⟩
    go_wp2_with fail
    go_ret2
    exact NmTxt.mk' HR.out (HB6.out.trans (hb8.mono HB6.out.size))
end Go.Proofs.YtifjghkgmfmneaaGreatDoor
