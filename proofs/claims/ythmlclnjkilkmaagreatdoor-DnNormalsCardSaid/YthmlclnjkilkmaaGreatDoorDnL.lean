/- The walks of the laws DnJoins, DnAbove, DnMoves, DnOrders and DnNormals. Condition: the library's variables are laid. -/
import Derived.Test.YthmlclnjkilkmaaGreatDoorDnF
import Derived.Test.YthmlclnjkilkmaaGreatDoorDnj
namespace Go.Proofs.YthmlclnjkilkmaaGreatDoor
open Go.RowKit

theorem bytes_list (x : ByteArray) : ∃ l : List UInt8, x = ⟨l.toArray⟩ := ⟨x.data.toList, by cases x; simp⟩
theorem fit_len (ts : List (List UInt8)) : (DnS.fitS ts).1.length ≤ 1000 := by
  unfold DnS.fitS
  split
  · simp
  · show (DnS.joinS ts).length ≤ 1000; omega
theorem joinNS_len (p q : List UInt8) : (DnS.joinNS p q).1.length ≤ 1000 := by
  unfold DnS.joinNS
  split
  · split
    · exact fit_len _
    · simp
  · simp
theorem moveS_len (s f t : List UInt8) : (DnS.moveS s f t).1.length ≤ 1000 := by
  unfold DnS.moveS
  split
  · split
    · split
      · split
        · exact fit_len _
        · simp
      · simp
    · simp
  · simp
theorem parentS_len (s : List UInt8) : (DnS.parentS s).1.length ≤ 1000 := by
  unfold DnS.parentS
  split
  · simp
  · exact texts_drop (s := s) rfl

set_option maxRecDepth 100000 in
set_option maxHeartbeats 2000000 in
theorem lawdnjoins_c (x0 x1 : ByteArray) (w : World) (hE : Env w) : Calls Tryz.prog 5 #[.string x0, .string x1] w (True_ w) := by
  obtain ⟨a, rfl⟩ := bytes_list x0
  obtain ⟨b, rfl⟩ := bytes_list x1
  have hfew : ∀ w : World, Calls Tryz.prog 16 #[.slice (some ⟨w.heap.size, 0, none⟩) 2 2] (w.alloc (.cells #[.string ⟨a.toArray⟩, .string ⟨b.toArray⟩] 9)) (FewRet 3000 [a, b] (w.alloc (.cells #[.string ⟨a.toArray⟩, .string ⟨b.toArray⟩] 9))) := fun w => few06_c _ [a, b] _ (StrsIn.laid w [a, b] 2 rfl) (by simp)
  have HALL : Hid (([a, b].all fun x => decide (x.length ≤ 3000)) = true → a.length ≤ 3000 ∧ b.length ≤ 3000) := Lib.hid (fun h => by simpa using h)
  unfold FewRet at hfew
  generalize ([a, b].all fun x => decide (x.length ≤ 3000)) = q at *
  go_enter Tryz.func5, Tryz.ntmps5
  go_wp2_with fail
  refine (awake06_c _ hE).mono ?_; rintro e w1 ⟨rfl, hb1⟩
  have hE1 := (hE.below hb1).alloc (.cells #[.string ⟨a.toArray⟩, .string ⟨b.toArray⟩] 9)
  have hbb := below_trans hb1 (grow1 w1 (.cells #[.string ⟨a.toArray⟩, .string ⟨b.toArray⟩] 9))
  go_wp2_with fail
  refine (hfew _).mono ?_; rintro e w2 ⟨rfl, rfl⟩
  clear hfew
  generalize w1.alloc (.cells #[.string ⟨a.toArray⟩, .string ⟨b.toArray⟩] 9) = w2 at *
  cases q with
  | false =>
    go_wp2_with fail
    refine (awake06_c _ hE1).mono ?_; rintro e w3 ⟨rfl, hb3⟩
    go_wp2_with fail
    go_ret
    exact ⟨rfl, below_trans hbb hb3⟩
  | true =>
    obtain ⟨qa, qb⟩ := HALL.out rfl
    clear HALL
    have h1 := fun w hE => dnjoin_c a b (by omega) (by omega) w hE
    have h2 := fun w hE => rnjoin_c a b (by omega) (by omega) w hE
    have h3 := fun w hE => dnnormal_c b (by omega) w hE
    have HP := Lib.hid (fun z => DnS.join_parent (part := a) (parent := b) (x := z))
    have hxl := joinNS_len a b
    unfold NmTxt at h1 h2 h3
    generalize DnS.joinNS a b = J at *
    obtain ⟨x, e0⟩ := J
    simp only at h1 h2 hxl
    by_cases he : e0 = 0
    · subst he
      have h4 := fun w hE => dnparent_c x (by omega) w hE
      unfold NmPar at h4
      rw [HP.out x rfl] at h4
      simp only at h4
      clear HP
      generalize DnS.normN b = N at *
      obtain ⟨n, e1⟩ := N
      simp only at h3 h4
      go_wp2_with fail
      refine (h1 _ hE1).mono ?_; rintro e w3 ⟨rfl, hb3⟩
      have hE3 := hE1.below hb3
      go_wp2_with fail
      refine (h2 _ hE3).mono ?_; rintro e w4 ⟨rfl, hb4⟩
      have hE4 := hE3.below hb4
      go_wp2_with fail
      refine (h4 _ hE4).mono ?_; rintro e w5 ⟨rfl, hb5⟩
      go_wp2_with fail
      refine (h3 _ (hE4.below hb5)).mono ?_; rintro e w6 ⟨rfl, hb6⟩
      go_wp2_with fail
      go_ret
      exact ⟨rfl, below_trans (below_trans (below_trans (below_trans hbb hb3) hb4) hb5) hb6⟩
    · have hez : (e0 != 0) = true := by simpa using he
      clear HP
      go_wp2_with fail
      refine (h1 _ hE1).mono ?_; rintro e w3 ⟨rfl, hb3⟩
      have hE3 := hE1.below hb3
      go_wp2_with fail
      refine (h2 _ hE3).mono ?_; rintro e w4 ⟨rfl, hb4⟩
      go_wp2_with fail
      go_ret
      exact ⟨rfl, below_trans (below_trans hbb hb3) hb4⟩

set_option maxRecDepth 100000 in
set_option maxHeartbeats 2000000 in
theorem lawdnabove_c (x0 x1 : ByteArray) (w : World) (hE : Env w) : Calls Tryz.prog 6 #[.string x0, .string x1] w (True_ w) := by
  obtain ⟨a, rfl⟩ := bytes_list x0
  obtain ⟨b, rfl⟩ := bytes_list x1
  have hfew : ∀ w : World, Calls Tryz.prog 16 #[.slice (some ⟨w.heap.size, 0, none⟩) 2 2] (w.alloc (.cells #[.string ⟨a.toArray⟩, .string ⟨b.toArray⟩] 9)) (FewRet 3000 [a, b] (w.alloc (.cells #[.string ⟨a.toArray⟩, .string ⟨b.toArray⟩] 9))) := fun w => few06_c _ [a, b] _ (StrsIn.laid w [a, b] 2 rfl) (by simp)
  have HALL : Hid (([a, b].all fun x => decide (x.length ≤ 3000)) = true → a.length ≤ 3000 ∧ b.length ≤ 3000) := Lib.hid (fun h => by simpa using h)
  unfold FewRet at hfew
  generalize ([a, b].all fun x => decide (x.length ≤ 3000)) = q at *
  go_enter Tryz.func6, Tryz.ntmps6
  go_wp2_with fail
  refine (awake06_c _ hE).mono ?_; rintro e w1 ⟨rfl, hb1⟩
  have hE1 := (hE.below hb1).alloc (.cells #[.string ⟨a.toArray⟩, .string ⟨b.toArray⟩] 9)
  have hbb := below_trans hb1 (grow1 w1 (.cells #[.string ⟨a.toArray⟩, .string ⟨b.toArray⟩] 9))
  go_wp2_with fail
  refine (hfew _).mono ?_; rintro e w2 ⟨rfl, rfl⟩
  clear hfew
  generalize w1.alloc (.cells #[.string ⟨a.toArray⟩, .string ⟨b.toArray⟩] 9) = w2 at *
  cases q with
  | false =>
    go_wp2_with fail
    refine (awake06_c _ hE1).mono ?_; rintro e w3 ⟨rfl, hb3⟩
    go_wp2_with fail
    go_ret
    exact ⟨rfl, below_trans hbb hb3⟩
  | true =>
    obtain ⟨qa, qb⟩ := HALL.out rfl
    clear HALL
    have h1 := fun w hE => dnparent_c a (by omega) w hE
    have h2 := fun w hE => rnparent_c a (by omega) w hE
    have h3 := fun w hE => dndepth_c a (by omega) w hE
    have h4 := fun w hE => rndepth_c a (by omega) w hE
    have h5 := fun w hE => dnunder_c a b (by omega) (by omega) w hE
    have h6 := fun w hE => rnunder_c a b (by omega) (by omega) w hE
    have HP := Lib.hid (fun q => DnS.parent_under (s := a) (p := q))
    have hxl := parentS_len a
    have hdl := (DnS.texts_len a).1
    unfold NmPar at h1 h2
    unfold NmNum at h3 h4
    unfold NmBool at h5 h6
    generalize DnS.parentS a = P at *
    obtain ⟨q, ok⟩ := P
    simp only at h1 h2 hxl
    have hdl1 : (((DnS.textsS a).1.length : Nat) : Int) ≤ 12 := by omega
    have hdl0 : (0 : Int) ≤ (((DnS.textsS a).1.length : Nat) : Int) := by omega
    have HD := Lib.hid (fun (h : ok = true) => HP.out q (by rw [h]))
    generalize (((DnS.textsS a).1.length : Nat) : Int) = da at *
    generalize DnS.underS a b = u at *
    go_wp2_with fail
    refine (h1 _ hE1).mono ?_; rintro e w3 ⟨rfl, hb3⟩
    have hE3 := hE1.below hb3
    go_wp2_with fail
    refine (h2 _ hE3).mono ?_; rintro e w4 ⟨rfl, hb4⟩
    have hE4 := hE3.below hb4
    go_wp2_with fail
    refine (h3 _ hE4).mono ?_; rintro e w5 ⟨rfl, hb5⟩
    have hE5 := hE4.below hb5
    go_wp2_with fail
    refine (h4 _ hE5).mono ?_; rintro e w6 ⟨rfl, hb6⟩
    have hE6 := hE5.below hb6
    go_wp2_with fail
    refine (h5 _ hE6).mono ?_; rintro e w7 ⟨rfl, hb7⟩
    have hE7 := hE6.below hb7
    go_wp2_with fail
    refine (h6 _ hE7).mono ?_; rintro e w8 ⟨rfl, hb8⟩
    have hE8 := hE7.below hb8
    have hb' := below_trans (below_trans (below_trans (below_trans (below_trans (below_trans hbb hb3) hb4) hb5) hb6) hb7) hb8
    cases ok with
    | false =>
      clear HD HP
      go_wp2_with fail
      go_ret
      exact ⟨rfl, hb'⟩
    | true =>
      obtain ⟨hu, hd⟩ := HD.out rfl
      have h7 := fun w hE => dnunder_c a q (by omega) (by omega) w hE
      have h8 := fun w hE => dndepth_c q (by omega) w hE
      unfold NmBool at h7
      unfold NmNum at h8
      rw [hu] at h7
      rw [hd] at h8
      clear HD HP hu hd
      go_wp2_with fail
      refine (h7 _ hE8).mono ?_; rintro e w9 ⟨rfl, hb9⟩
      have hE9 := hE8.below hb9
      go_wp2_with fail
      refine (h8 _ hE9).mono ?_; rintro e w10 ⟨rfl, hb10⟩
      have hE10 := hE9.below hb10
      go_wp2_with fail
      refine (h3 _ hE10).mono ?_; rintro e w11 ⟨rfl, hb11⟩
      go_wp2_with fail
      go_ret
      exact ⟨rfl, below_trans (below_trans (below_trans hb' hb9) hb10) hb11⟩

set_option maxRecDepth 100000 in
set_option maxHeartbeats 2000000 in
theorem lawdnmoves_c (x0 x1 x2 : ByteArray) (w : World) (hE : Env w) : Calls Tryz.prog 7 #[.string x0, .string x1, .string x2] w (True_ w) := by
  obtain ⟨a, rfl⟩ := bytes_list x0
  obtain ⟨b, rfl⟩ := bytes_list x1
  obtain ⟨c, rfl⟩ := bytes_list x2
  have hfew : ∀ w : World, Calls Tryz.prog 16 #[.slice (some ⟨w.heap.size, 0, none⟩) 3 3] (w.alloc (.cells #[.string ⟨a.toArray⟩, .string ⟨b.toArray⟩, .string ⟨c.toArray⟩] 9)) (FewRet 3000 [a, b, c] (w.alloc (.cells #[.string ⟨a.toArray⟩, .string ⟨b.toArray⟩, .string ⟨c.toArray⟩] 9))) := fun w => few06_c _ [a, b, c] _ (StrsIn.laid w [a, b, c] 3 rfl) (by simp)
  have HALL : Hid (([a, b, c].all fun x => decide (x.length ≤ 3000)) = true → a.length ≤ 3000 ∧ b.length ≤ 3000 ∧ c.length ≤ 3000) := Lib.hid (fun h => by simpa using h)
  unfold FewRet at hfew
  generalize ([a, b, c].all fun x => decide (x.length ≤ 3000)) = q at *
  go_enter Tryz.func7, Tryz.ntmps7
  go_wp2_with fail
  refine (awake06_c _ hE).mono ?_; rintro e w1 ⟨rfl, hb1⟩
  have hE1 := (hE.below hb1).alloc (.cells #[.string ⟨a.toArray⟩, .string ⟨b.toArray⟩, .string ⟨c.toArray⟩] 9)
  have hbb := below_trans hb1 (grow1 w1 (.cells #[.string ⟨a.toArray⟩, .string ⟨b.toArray⟩, .string ⟨c.toArray⟩] 9))
  go_wp2_with fail
  refine (hfew _).mono ?_; rintro e w2 ⟨rfl, rfl⟩
  clear hfew
  generalize w1.alloc (.cells #[.string ⟨a.toArray⟩, .string ⟨b.toArray⟩, .string ⟨c.toArray⟩] 9) = w2 at *
  cases q with
  | false =>
    go_wp2_with fail
    refine (awake06_c _ hE1).mono ?_; rintro e w3 ⟨rfl, hb3⟩
    go_wp2_with fail
    go_ret
    exact ⟨rfl, below_trans hbb hb3⟩
  | true =>
    obtain ⟨qa, qb, qc⟩ := HALL.out rfl
    clear HALL
    have h1 := fun w hE => dnmove_c a b c (by omega) (by omega) (by omega) w hE
    have h2 := fun w hE => rnmove_c a b c (by omega) (by omega) (by omega) w hE
    have HP := Lib.hid (fun z => DnS.move_back (s := a) (fr := b) (dst := c) (x := z))
    have hxl := moveS_len a b c
    unfold NmTxt at h1 h2
    generalize DnS.moveS a b c = J at *
    obtain ⟨x, e0⟩ := J
    simp only at h1 h2 hxl
    by_cases he : e0 = 0
    · subst he
      obtain ⟨hm, hu, hd⟩ := HP.out x rfl
      have h3 := fun w hE => dnmove_c x c b (by omega) (by omega) (by omega) w hE
      have h4 := fun w hE => dnnormal_c a (by omega) w hE
      have h5 := fun w hE => dnunder_c x c (by omega) (by omega) w hE
      have h6 := fun w hE => dndepth_c x (by omega) w hE
      have h7 := fun w hE => dndepth_c c (by omega) w hE
      have h8 := fun w hE => dndepth_c a (by omega) w hE
      have h9 := fun w hE => dndepth_c b (by omega) w hE
      unfold NmTxt at h3 h4
      unfold NmBool at h5
      unfold NmNum at h6 h7 h8 h9
      rw [hm] at h3
      rw [hu] at h5
      simp only at h3
      have l1 := (DnS.texts_len x).1
      have l2 := (DnS.texts_len c).1
      have l3 := (DnS.texts_len a).1
      have l4 := (DnS.texts_len b).1
      have k1 : (((DnS.textsS x).1.length : Nat) : Int) ≤ 12 ∧ (0 : Int) ≤ (((DnS.textsS x).1.length : Nat) : Int) := by omega
      have k2 : (((DnS.textsS c).1.length : Nat) : Int) ≤ 12 ∧ (0 : Int) ≤ (((DnS.textsS c).1.length : Nat) : Int) := by omega
      have k3 : (((DnS.textsS a).1.length : Nat) : Int) ≤ 12 ∧ (0 : Int) ≤ (((DnS.textsS a).1.length : Nat) : Int) := by omega
      have k4 : (((DnS.textsS b).1.length : Nat) : Int) ≤ 12 ∧ (0 : Int) ≤ (((DnS.textsS b).1.length : Nat) : Int) := by omega
      generalize (((DnS.textsS x).1.length : Nat) : Int) = dx at *
      generalize (((DnS.textsS c).1.length : Nat) : Int) = dc at *
      generalize (((DnS.textsS a).1.length : Nat) : Int) = da at *
      generalize (((DnS.textsS b).1.length : Nat) : Int) = db at *
      obtain ⟨k1, k1'⟩ := k1
      obtain ⟨k2, k2'⟩ := k2
      obtain ⟨k3, k3'⟩ := k3
      obtain ⟨k4, k4'⟩ := k4
      generalize DnS.normN a = N at *
      obtain ⟨n, e1⟩ := N
      simp only at h3 h4
      have HD := Lib.hid hd
      clear HP hm hu hd l1 l2 l3 l4
      go_wp2_with fail
      refine (h1 _ hE1).mono ?_; rintro e w3 ⟨rfl, hb3⟩
      have hE3 := hE1.below hb3
      go_wp2_with fail
      refine (h2 _ hE3).mono ?_; rintro e w4 ⟨rfl, hb4⟩
      have hE4 := hE3.below hb4
      go_wp2_with fail
      refine (h3 _ hE4).mono ?_; rintro e w5 ⟨rfl, hb5⟩
      have hE5 := hE4.below hb5
      go_wp2_with fail
      refine (h4 _ hE5).mono ?_; rintro e w6 ⟨rfl, hb6⟩
      have hE6 := hE5.below hb6
      go_wp2_with fail
      refine (h5 _ hE6).mono ?_; rintro e w7 ⟨rfl, hb7⟩
      have hE7 := hE6.below hb7
      go_wp2_with fail
      refine (h6 _ hE7).mono ?_; rintro e w8 ⟨rfl, hb8⟩
      have hE8 := hE7.below hb8
      go_wp2_with fail
      refine (h7 _ hE8).mono ?_; rintro e w9 ⟨rfl, hb9⟩
      have hE9 := hE8.below hb9
      go_wp2_with fail
      refine (h8 _ hE9).mono ?_; rintro e w10 ⟨rfl, hb10⟩
      have hE10 := hE9.below hb10
      go_wp2_with fail
      refine (h9 _ hE10).mono ?_; rintro e w11 ⟨rfl, hb11⟩
      have hd := HD.out
      have hd2 : (dx - dc == da - db) = true := by rw [hd]; simp
      clear HD hd
      go_wp2_with fail
      go_ret
      exact ⟨rfl, below_trans (below_trans (below_trans (below_trans (below_trans (below_trans (below_trans (below_trans (below_trans hbb hb3) hb4) hb5) hb6) hb7) hb8) hb9) hb10) hb11⟩
    · have hez : (e0 != 0) = true := by simpa using he
      clear HP
      go_wp2_with fail
      refine (h1 _ hE1).mono ?_; rintro e w3 ⟨rfl, hb3⟩
      have hE3 := hE1.below hb3
      go_wp2_with fail
      refine (h2 _ hE3).mono ?_; rintro e w4 ⟨rfl, hb4⟩
      go_wp2_with fail
      go_ret
      exact ⟨rfl, below_trans (below_trans hbb hb3) hb4⟩

set_option maxRecDepth 100000 in
set_option maxHeartbeats 2000000 in
theorem lawdnorders_c (x0 x1 x2 : ByteArray) (w : World) (hE : Env w) : Calls Tryz.prog 8 #[.string x0, .string x1, .string x2] w (True_ w) := by
  obtain ⟨a, rfl⟩ := bytes_list x0
  obtain ⟨b, rfl⟩ := bytes_list x1
  obtain ⟨c, rfl⟩ := bytes_list x2
  have hfew : ∀ w : World, Calls Tryz.prog 16 #[.slice (some ⟨w.heap.size, 0, none⟩) 3 3] (w.alloc (.cells #[.string ⟨a.toArray⟩, .string ⟨b.toArray⟩, .string ⟨c.toArray⟩] 9)) (FewRet 3000 [a, b, c] (w.alloc (.cells #[.string ⟨a.toArray⟩, .string ⟨b.toArray⟩, .string ⟨c.toArray⟩] 9))) := fun w => few06_c _ [a, b, c] _ (StrsIn.laid w [a, b, c] 3 rfl) (by simp)
  have HALL : Hid (([a, b, c].all fun x => decide (x.length ≤ 3000)) = true → a.length ≤ 3000 ∧ b.length ≤ 3000 ∧ c.length ≤ 3000) := Lib.hid (fun h => by simpa using h)
  unfold FewRet at hfew
  generalize ([a, b, c].all fun x => decide (x.length ≤ 3000)) = q at *
  go_enter Tryz.func8, Tryz.ntmps8
  go_wp2_with fail
  refine (awake06_c _ hE).mono ?_; rintro e w1 ⟨rfl, hb1⟩
  have hE1 := (hE.below hb1).alloc (.cells #[.string ⟨a.toArray⟩, .string ⟨b.toArray⟩, .string ⟨c.toArray⟩] 9)
  have hbb := below_trans hb1 (grow1 w1 (.cells #[.string ⟨a.toArray⟩, .string ⟨b.toArray⟩, .string ⟨c.toArray⟩] 9))
  go_wp2_with fail
  refine (hfew _).mono ?_; rintro e w2 ⟨rfl, rfl⟩
  clear hfew
  generalize w1.alloc (.cells #[.string ⟨a.toArray⟩, .string ⟨b.toArray⟩, .string ⟨c.toArray⟩] 9) = w2 at *
  cases q with
  | false =>
    go_wp2_with fail
    refine (awake06_c _ hE1).mono ?_; rintro e w3 ⟨rfl, hb3⟩
    go_wp2_with fail
    go_ret
    exact ⟨rfl, below_trans hbb hb3⟩
  | true =>
    obtain ⟨qa, qb, qc⟩ := HALL.out rfl
    clear HALL
    have h1 := fun w hE => dncompare_c a b (by omega) (by omega) w hE
    have h2 := fun w hE => dncompare_c b c (by omega) (by omega) w hE
    have h3 := fun w hE => dncompare_c a c (by omega) (by omega) w hE
    have h4 := fun w hE => dnnormal_c a (by omega) w hE
    have h5 := fun w hE => dnnormal_c b (by omega) w hE
    have h6 := fun w hE => dnnormal_c c (by omega) w hE
    have h7 := fun w hE => rncompare_c a b (by omega) (by omega) w hE
    have h8 := fun w hE => dncompare_c b a (by omega) (by omega) w hE
    have h9 := fun w hE => dnunder_c a b (by omega) (by omega) w hE
    have HT := Lib.hid (DnS.compareS_trans (a := a) (b := b) (c := c))
    have HU := Lib.hid (DnS.compareS_under (a := a) (b := b))
    have r1 := DnS.compareS_range a b
    have r2 := DnS.compareS_range b c
    have r3 := DnS.compareS_range a c
    rw [DnS.compareS_swap a b] at h8
    unfold NmNum at h1 h2 h3 h7 h8
    unfold NmTxt at h4 h5 h6
    unfold NmBool at h9
    have ea : ∀ s, (DnS.normN s).2 = (DnS.textsS s).2 := fun _ => rfl
    rw [ea] at h4 h5 h6
    generalize (DnS.normN a).1 = na at *
    generalize (DnS.normN b).1 = nb at *
    generalize (DnS.normN c).1 = nc at *
    generalize (DnS.textsS a).2 = e1 at *
    generalize (DnS.textsS b).2 = e2 at *
    generalize (DnS.textsS c).2 = e3 at *
    generalize DnS.compareS a b = x at *
    generalize DnS.compareS b c = y at *
    generalize DnS.compareS a c = z at *
    generalize DnS.underS a b = u at *
    obtain ⟨r1, r1'⟩ := r1
    obtain ⟨r2, r2'⟩ := r2
    obtain ⟨r3, r3'⟩ := r3
    clear ea
    go_wp2_with fail
    refine (h1 _ hE1).mono ?_; rintro e w3 ⟨rfl, hb3⟩
    have hE3 := hE1.below hb3
    go_wp2_with fail
    refine (h2 _ hE3).mono ?_; rintro e w4 ⟨rfl, hb4⟩
    have hE4 := hE3.below hb4
    go_wp2_with fail
    refine (h3 _ hE4).mono ?_; rintro e w5 ⟨rfl, hb5⟩
    have hE5 := hE4.below hb5
    go_wp2_with fail
    refine (h4 _ hE5).mono ?_; rintro e w6 ⟨rfl, hb6⟩
    have hE6 := hE5.below hb6
    go_wp2_with fail
    refine (h5 _ hE6).mono ?_; rintro e w7 ⟨rfl, hb7⟩
    have hE7 := hE6.below hb7
    go_wp2_with fail
    refine (h6 _ hE7).mono ?_; rintro e w8 ⟨rfl, hb8⟩
    have hE8 := hE7.below hb8
    have hb' := below_trans (below_trans (below_trans (below_trans (below_trans (below_trans hbb hb3) hb4) hb5) hb6) hb7) hb8
    clear h1 h2 h3 h4 h5 h6 hb3 hb4 hb5 hb6 hb7 hb8
    have hthr : e1 ≠ 0 ∨ (e1 = 0 ∧ e2 ≠ 0) ∨ (e1 = 0 ∧ e2 = 0 ∧ e3 ≠ 0) ∨ (e1 = 0 ∧ e2 = 0 ∧ e3 = 0 ∧ 0 < x) ∨ (e1 = 0 ∧ e2 = 0 ∧ e3 = 0 ∧ ¬ 0 < x ∧ 0 < y) ∨ (e1 = 0 ∧ e2 = 0 ∧ e3 = 0 ∧ ¬ 0 < x ∧ ¬ 0 < y ∧ z ≤ 0) := by
      by_cases h1 : e1 = 0
      · by_cases h2 : e2 = 0
        · by_cases h3 : e3 = 0
          · have := HT.out h1 h2 h3
            omega
          · exact .inr (.inr (.inl ⟨h1, h2, h3⟩))
        · exact .inr (.inl ⟨h1, h2⟩)
      · exact .inl h1
    have hux : u = false ∨ (u = true ∧ 0 ≤ x) := by
      cases u
      · exact .inl rfl
      · exact .inr ⟨rfl, HU.out rfl⟩
    clear HT HU
    rcases hthr with h | ⟨rfl, h⟩ | ⟨rfl, rfl, h⟩ | ⟨rfl, rfl, rfl, h⟩ | ⟨rfl, rfl, rfl, hn, h⟩ | ⟨rfl, rfl, rfl, hn, hn2, h⟩
    all_goals
      try (have hez : (e1 != 0) = true := by simpa using h)
      try (have hez : (e2 != 0) = true := by simpa using h)
      try (have hez : (e3 != 0) = true := by simpa using h)
      go_wp2_with fail
      refine (h7 _ hE8).mono ?_; rintro e w9 ⟨rfl, hb9⟩
      have hE9 := hE8.below hb9
      go_wp2_with fail
      refine (h8 _ hE9).mono ?_; rintro e w10 ⟨rfl, hb10⟩
      have hE10 := hE9.below hb10
      go_wp2_with fail
      refine (h9 _ hE10).mono ?_; rintro e w11 ⟨rfl, hb11⟩
      rcases hux with rfl | ⟨rfl, hx⟩
      all_goals
        go_wp2_with fail
        go_ret
        exact ⟨rfl, below_trans (below_trans (below_trans hb' hb9) hb10) hb11⟩

set_option maxRecDepth 100000 in
set_option maxHeartbeats 2000000 in
theorem lawdnnormals_c (x0 x1 x2 x3 : ByteArray) (w : World) (hE : Env w) : Calls Tryz.prog 9 #[.string x0, .string x1, .string x2, .string x3] w (True_ w) := by
  obtain ⟨a, rfl⟩ := bytes_list x0
  obtain ⟨b, rfl⟩ := bytes_list x1
  obtain ⟨nm, rfl⟩ := bytes_list x2
  obtain ⟨v, rfl⟩ := bytes_list x3
  have hfew : ∀ w : World, Calls Tryz.prog 16 #[.slice (some ⟨w.heap.size, 0, none⟩) 4 4] (w.alloc (.cells #[.string ⟨a.toArray⟩, .string ⟨b.toArray⟩, .string ⟨nm.toArray⟩, .string ⟨v.toArray⟩] 9)) (FewRet 3000 [a, b, nm, v] (w.alloc (.cells #[.string ⟨a.toArray⟩, .string ⟨b.toArray⟩, .string ⟨nm.toArray⟩, .string ⟨v.toArray⟩] 9))) := fun w => few06_c _ [a, b, nm, v] _ (StrsIn.laid w [a, b, nm, v] 4 rfl) (by simp)
  have HALL : Hid (([a, b, nm, v].all fun x => decide (x.length ≤ 3000)) = true → a.length ≤ 3000 ∧ b.length ≤ 3000 ∧ nm.length ≤ 3000 ∧ v.length ≤ 3000) := Lib.hid (fun h => by simpa using h)
  unfold FewRet at hfew
  generalize ([a, b, nm, v].all fun x => decide (x.length ≤ 3000)) = q at *
  go_enter Tryz.func9, Tryz.ntmps9
  go_wp2_with fail
  refine (awake06_c _ hE).mono ?_; rintro e w1 ⟨rfl, hb1⟩
  have hE1 := (hE.below hb1).alloc (.cells #[.string ⟨a.toArray⟩, .string ⟨b.toArray⟩, .string ⟨nm.toArray⟩, .string ⟨v.toArray⟩] 9)
  have hbb := below_trans hb1 (grow1 w1 (.cells #[.string ⟨a.toArray⟩, .string ⟨b.toArray⟩, .string ⟨nm.toArray⟩, .string ⟨v.toArray⟩] 9))
  go_wp2_with fail
  refine (hfew _).mono ?_; rintro e w2 ⟨rfl, rfl⟩
  clear hfew
  generalize w1.alloc (.cells #[.string ⟨a.toArray⟩, .string ⟨b.toArray⟩, .string ⟨nm.toArray⟩, .string ⟨v.toArray⟩] 9) = w2 at *
  cases q with
  | false =>
    go_wp2_with fail
    refine (awake06_c _ hE1).mono ?_; rintro e w3 ⟨rfl, hb3⟩
    go_wp2_with fail
    go_ret
    exact ⟨rfl, below_trans hbb hb3⟩
  | true =>
    obtain ⟨qa, qb, qnm, qv⟩ := HALL.out rfl
    clear HALL
    have h1 := fun w hE => dnnormal_c a (by omega) w hE
    have h2 := fun w hE => dnnormal_c b (by omega) w hE
    have h3 := fun w hE => dnvalue_c nm v (by omega) (by omega) w hE
    have h4 := fun w hE => rnvalue_c nm v (by omega) (by omega) w hE
    have h5 := fun w hE => dnunder_c a b (by omega) (by omega) w hE
    have h6 := fun w hE => dnunder_c b a (by omega) (by omega) w hE
    have h7 := fun w hE => dncompare_c a b (by omega) (by omega) w hE
    have h8 := fun w hE => dnnormal_c (DnS.normN a).1 (by have := DnS.norm_len a; omega) w hE
    have HN := Lib.hid (DnS.norm_norm (s := a))
    have HB := Lib.hid (DnS.both_under (a := a) (b := b))
    have HBAD := Lib.hid (DnS.compareS_bad (a := a) (b := b))
    have ea : (DnS.textsS a).2 = (DnS.normN a).2 := rfl
    rw [ea] at HB HBAD
    unfold NmTxt at h1 h2 h3 h4 h8
    unfold NmBool at h5 h6
    unfold NmNum at h7
    generalize DnS.normN (DnS.normN a).1 = NN at *
    generalize DnS.normN a = A at *
    generalize DnS.normN b = B at *
    generalize DnS.valueS nm v = V at *
    generalize DnS.underS a b = u1 at *
    generalize DnS.underS b a = u2 at *
    generalize DnS.compareS a b = cm at *
    obtain ⟨x, e1⟩ := A
    obtain ⟨y, e2⟩ := B
    obtain ⟨vv, e3⟩ := V
    simp only at h1 h2 h3 h4 HN HB HBAD
    clear ea
    go_wp2_with fail
    refine (h1 _ hE1).mono ?_; rintro e w3 ⟨rfl, hb3⟩
    have hE3 := hE1.below hb3
    go_wp2_with fail
    refine (h2 _ hE3).mono ?_; rintro e w4 ⟨rfl, hb4⟩
    have hE4 := hE3.below hb4
    go_wp2_with fail
    refine (h3 _ hE4).mono ?_; rintro e w5 ⟨rfl, hb5⟩
    have hE5 := hE4.below hb5
    go_wp2_with fail
    refine (h4 _ hE5).mono ?_; rintro e w6 ⟨rfl, hb6⟩
    have hE6 := hE5.below hb6
    have hb' := below_trans (below_trans (below_trans (below_trans hbb hb3) hb4) hb5) hb6
    clear h1 h2 h3 h4 hb3 hb4 hb5 hb6
    by_cases he : e1 = 0
    case neg =>
      obtain ⟨rfl, rfl, rfl⟩ := HBAD.out he
      have hez : (e1 != 0) = true := by simpa using he
      clear HN HB HBAD
      go_wp2_with fail
      refine (h5 _ hE6).mono ?_; rintro e w7 ⟨rfl, hb7⟩
      have hE7 := hE6.below hb7
      go_wp2_with fail
      refine (h6 _ hE7).mono ?_; rintro e w8 ⟨rfl, hb8⟩
      have hE8 := hE7.below hb8
      go_wp2_with fail
      refine (h7 _ hE8).mono ?_; rintro e w9 ⟨rfl, hb9⟩
      go_wp2_with fail
      go_ret
      exact ⟨rfl, below_trans (below_trans (below_trans hb' hb7) hb8) hb9⟩
    subst he
    have hnn := HN.out rfl
    subst hnn
    have hbo := HB.out rfl
    simp only at h8
    clear HN HB HBAD h7
    go_wp2_with fail
    refine (h8 _ hE6).mono ?_; rintro e w7 ⟨rfl, hb7⟩
    have hE7 := hE6.below hb7
    have hcase : (u1 = false ∧ ¬ (e2 = 0 ∧ x = y)) ∨ (u1 = true ∧ u2 = false ∧ ¬ (e2 = 0 ∧ x = y)) ∨ (u1 = true ∧ u2 = true ∧ e2 = 0 ∧ x = y) := by
      cases u1 <;> cases u2 <;> simp at hbo <;> simp [hbo] <;> (intro h; simpa using hbo h)
    clear hbo
    have hbool : ∀ (x y : List UInt8) (e2 : Int), ¬ (e2 = 0 ∧ x = y) → (e2 = 0 ∧ (x == y) = false) ∨ (e2 == 0) = false := fun x y e2 h => by
      by_cases h1 : e2 = 0
      · left; exact ⟨h1, by simpa using fun h2 => h ⟨h1, h2⟩⟩
      · right; simpa using h1
    rcases hcase with ⟨rfl, hne⟩ | ⟨rfl, rfl, hne⟩ | ⟨rfl, rfl, rfl, rfl⟩
    · rcases hbool _ _ _ hne with ⟨rfl, hxy⟩ | h0
      all_goals
        clear hne hbool
        go_wp2_with fail
        refine (h5 _ hE7).mono ?_; rintro e w8 ⟨rfl, hb8⟩
        go_wp2_with fail
        go_ret
        exact ⟨rfl, below_trans (below_trans hb' hb7) hb8⟩
    · rcases hbool _ _ _ hne with ⟨rfl, hxy⟩ | h0
      all_goals
        clear hne hbool
        go_wp2_with fail
        refine (h5 _ hE7).mono ?_; rintro e w8 ⟨rfl, hb8⟩
        have hE8 := hE7.below hb8
        go_wp2_with fail
        refine (h6 _ hE8).mono ?_; rintro e w9 ⟨rfl, hb9⟩
        go_wp2_with fail
        go_ret
        exact ⟨rfl, below_trans (below_trans (below_trans hb' hb7) hb8) hb9⟩
    · clear hbool
      go_wp2_with fail
      refine (h5 _ hE7).mono ?_; rintro e w8 ⟨rfl, hb8⟩
      have hE8 := hE7.below hb8
      go_wp2_with fail
      refine (h6 _ hE8).mono ?_; rintro e w9 ⟨rfl, hb9⟩
      go_wp2_with fail
      go_ret
      exact ⟨rfl, below_trans (below_trans (below_trans hb' hb7) hb8) hb9⟩

end Go.Proofs.YthmlclnjkilkmaaGreatDoor
