/- The walks of the document's values, truth, find of a filter. Conditions: as stated. -/
import Derived.Test.YtjmfknfponjgkaaGreatDoorJFiS
import Derived.Test.YtjmfknfponjgkaaGreatDoorJFid
import Derived.Test.YtjmfknfponjgkaaGreatDoorJEna
import Derived.Test.YtjmfknfponjgkaaGreatDoorJFiq
import Derived.Test.YtjmfknfponjgkaaGreatDoorJRuk
set_option maxRecDepth 100000
set_option maxHeartbeats 8000000
namespace Go.Proofs.YtjmfknfponjgkaaGreatDoor
section
namespace FiS
theorem typedE_append (t : List UInt8) : ∀ (A B : List EnS.At), typedE t (A ++ B) = typedE t A ++ typedE t B
 | [], _ => rfl
 | a :: r, B => by
  show (if (RuS.typeOf a.typ).1 = t then a.vals else []) ++ typedE t (r ++ B) = _
  rw [typedE_append t r B, typedE, List.append_assoc]
theorem typedE_take (t : List UInt8) (A : List EnS.At) (j : Nat) (hj : j < A.length) : typedE t (A.take (j + 1)) = typedE t (A.take j) ++ (if (RuS.typeOf (A[j]'hj).typ).1 = t then (A[j]'hj).vals else []) := by
 rw [List.take_succ_eq_append_getElem hj, typedE_append]
 show _ ++ ((if (RuS.typeOf (A[j]'hj).typ).1 = t then (A[j]'hj).vals else []) ++ []) = _
 rw [List.append_nil]
theorem typedE_len (t : List UInt8) : ∀ A : List EnS.At, (typedE t A).length <= EnS.sumBy (fun a => a.vals.length) A
 | [] => Nat.le_refl _
 | a :: r => by
  have := typedE_len t r
  rw [typedE, List.length_append]
  show _ <= a.vals.length + EnS.sumBy _ r
  split
  · omega
  · simp only [List.length_nil]; omega
def findN (t p : List UInt8) (k : Nat) : Int := if 0 <= Lib.index (t.drop k) p then (k : Int) + Lib.index (t.drop k) p else -1
theorem occ_drop (t p : List UInt8) (k i : Nat) : Lib.occAt (t.drop k) p i = Lib.occAt t p (k + i) := by
 unfold Lib.occAt
 rw [List.drop_drop]
theorem occ_take {t p : List UInt8} {j : Nat} (_ : j + p.length <= t.length) : Lib.occAt t p j = ((t.take (j + p.length)).drop j == p) := by
 unfold Lib.occAt
 rw [List.drop_take, Nat.add_sub_cancel_left, Bool.eq_iff_iff, List.isPrefixOf_iff_prefix, List.prefix_iff_eq_take, beq_iff_eq]
 exact ⟨fun h => h.symm, fun h => h.symm⟩
theorem occ_len {t p : List UInt8} {j : Nat} (hj : j <= t.length) (h : Lib.occAt t p j = true) : j + p.length <= t.length := by
 unfold Lib.occAt at h
 have := (List.isPrefixOf_iff_prefix.1 h).length_le
 rw [List.length_drop] at this
 omega
theorem findN_yes {t p : List UInt8} {k j : Nat} (hk : k <= j) (hj : j <= t.length) (ho : Lib.occAt t p j = true) (hn : ∀ m, k <= m -> m < j -> Lib.occAt t p m = false) : findN t p k = j := by
 unfold findN
 rcases Lib.index_spec (t.drop k) p with ⟨_, h⟩ | ⟨i, h1, h2, h3, h4⟩
 · have := h (j - k) (by rw [List.length_drop]; omega)
   rw [occ_drop, show k + (j - k) = j by omega, ho] at this
   cases this
 · rw [h1, if_pos (by omega)]
   rw [occ_drop] at h3
   have e : i = j - k := by
    rcases Nat.lt_trichotomy i (j - k) with h | h | h
    · have := hn (k + i) (by omega) (by omega)
      rw [h3] at this
      cases this
    · exact h
    · have := h4 (j - k) h
      rw [occ_drop, show k + (j - k) = j by omega, ho] at this
      cases this
   omega
theorem findN_no {t p : List UInt8} {k j : Nat} (hk : k <= t.length) (hj : t.length < j + p.length) (hn : ∀ m, k <= m -> m < j -> Lib.occAt t p m = false) : findN t p k = -1 := by
 unfold findN
 rcases Lib.index_spec (t.drop k) p with ⟨h0, _⟩ | ⟨i, h1, h2, h3, _⟩
 · rw [h0]; rfl
 · rw [occ_drop] at h3
   rw [List.length_drop] at h2
   have := occ_len (j := k + i) (by omega) h3
   have h5 := hn (k + i) (by omega) (by omega)
   rw [h3] at h5
   cases h5
theorem findN_found {t p : List UInt8} {k : Nat} (h : 0 <= Lib.index (t.drop k) p) (hk : k <= t.length) : ∃ i : Nat, Lib.index (t.drop k) p = i /\ findN t p k = ((k + i : Nat) : Int) /\ k + i + p.length <= t.length /\ (t.drop k).drop (i + p.length) = t.drop (k + i + p.length) := by
 rcases Lib.index_spec (t.drop k) p with ⟨h0, _⟩ | ⟨i, h1, h2, h3, _⟩
 · omega
 · refine ⟨i, h1, by unfold findN; rw [if_pos h, h1]; rfl, ?_, by rw [List.drop_drop]; congr 1; omega⟩
   rw [occ_drop] at h3
   rw [List.length_drop] at h2
   exact occ_len (by omega) h3
end FiS
open Go.RowKit
open FiS (Fi)
attribute [local go_sem ↓] Go.wp_at_zero Go.wp_at_succ
theorem reftruth_c (b : Bool) (w : World) : Calls Tryz.prog 57 #[.bool b] w fun e w' => e = .returned (.int .i64 (if b = true then 1 else 0)) /\ w = w' := by
 cases b
 all_goals
  go_enter Tryz.func57, Tryz.ntmps57
  go_wp2_with fail
  go_ret
  exact ⟨rfl, rfl⟩
theorem reffindp_c (t p : List UInt8) (k : Nat) (ki : Int) (hki : ki = (k : Int)) (hk : k <= t.length) (ht : t.length <= 20000) (hp : p.length <= 20000) (w : World) : Calls Tryz.prog 86 #[.string ⟨t.toArray⟩, .string ⟨p.toArray⟩, .int .i64 ki] w fun e w' => e = .returned (.int .i64 (FiS.findN t p k)) /\ w = w' := by
 have HYES := hZ9 (fun j => @FiS.findN_yes t p k j)
 have HNO := hZ9 (fun j => @FiS.findN_no t p k j hk)
 have HX : Hid (∀ a b, (⟨t.toArray⟩ : ByteArray).extract a b = ⟨((t.take b).drop a).toArray⟩) := hZ9 (fun a b => mk_extract t a b)
 have HOT := hZ9 (fun j => @FiS.occ_take t p j)
 obtain ⟨R, hR⟩ : ∃ r, FiS.findN t p k = r := ⟨_, rfl⟩
 rw [hR] at HYES HNO ⊢
 clear hR
 have hk0 : (0 : Int) <= ki := by omega
 have hk1 : ki <= (t.length : Int) := by omega
 have HKI := hZ9 hki
 clear hki
 go_enter Tryz.func86, Tryz.ntmps86
 go_wp2_with fail
 go_loop [7] (fun i => ∃ (j : Nat), k <= j /\ j <= t.length + 1 /\ i = .int .i64 j /\ Hid (∀ m, k <= m -> m < j -> Lib.occAt t p m = false)) (fun i => t.length + 1 - (intOf i).toNat)
 case atStart => exact ⟨k, Nat.le_refl _, by omega, by rw [HKI.out], hZ9 (fun m h1 h2 => by omega)⟩
 case round =>
  obtain ⟨j, hkj, hj, rfl, HN⟩ := hrel
  clear hk0 hk1
  by_cases hlt : j + p.length <= t.length
  · have hj0 : (0 : Int) <= (j : Int) := by omega
    have hl1 : (j : Int) + (p.length : Int) <= (t.length : Int) := by omega
    have hl2 : (j : Int) <= (j : Int) + (p.length : Int) := by omega
    have hle : decide ((j : Int) + (p.length : Int) <= (t.length : Int)) = true := decide_eq_true hl1
    have hx := HX.out j (j + p.length)
    have HO : Hid (Lib.occAt t p j = (((t.take (j + p.length)).drop j) == p)) := hZ9 (by rw [HOT.out j hlt])
    generalize (t.take (j + p.length)).drop j = q at *
    clear HX HOT
    cases hq : (q == p) with
    | true =>
     have HR : Hid (R = j) := hZ9 (HYES.out j hkj (by omega) (by rw [HO.out, hq]) HN.out)
     clear HYES HNO HO HN HKI
     go_wp2_with fail
     go_ret
     exact ⟨by (rw [HR.out]) <;> rfl, by first | rfl | trivial⟩
    | false =>
     have HN2 : Hid (∀ m, k <= m -> m < j + 1 -> Lib.occAt t p m = false) := hZ9 (fun m h1 h2 => by
      rcases Nat.lt_or_eq_of_le (Nat.le_of_lt_succ h2) with h3 | rfl
      · exact HN.out m h1 h3
      · rw [HO.out, hq])
     clear HYES HNO HO HN HKI
     go_wp2_with fail
     go_round
     case rel => exact ⟨j + 1, by omega, by omega, by go_num, HN2⟩
     case measure => simp [intOf]; omega
  · have hle : decide ((j : Int) + (p.length : Int) <= (t.length : Int)) = false := decide_eq_false (by omega)
    have hl3 : (t.length : Int) < (j : Int) + (p.length : Int) := by omega
    have HR : Hid (R = -1) := hZ9 (HNO.out j (by omega) HN.out)
    clear HYES HNO HN HX HOT HKI
    go_wp2_with fail
    go_ret
    exact ⟨by (rw [HR.out]) <;> rfl, by first | rfl | trivial⟩
theorem reftyped_c (A : List EnS.At) (u : Value) (t : List UInt8) (w : World) (hA : AttrsIn w u A) (hf : FitA A /\ ∀ x ∈ A, x.typ.length <= 1048576) (hsum : EnS.sumBy (fun a => a.vals.length) A <= 1048576) (ht : t.length <= 20000) :
  Calls Tryz.prog 56 #[u, .string ⟨t.toArray⟩] w fun e w' => ∃ v, e = .returned v /\ Own w' w.heap.size v (FiS.typedE (RuS.typeOf t).1 A) /\ Below w.heap.size w w' := by
 obtain ⟨⟨hAl, hAv⟩, hAt⟩ := hf
 have hty : ∀ W, Calls Tryz.prog 55 #[.string ⟨t.toArray⟩] W (TypeRet t W) := fun W => reftype_c ⟨t.toArray⟩ (by rw [bsize]; omega) W
 unfold TypeRet at hty
 generalize RuS.typeOf t = TT at *
 obtain ⟨Tn, sy⟩ := TT
 simp only at hty ⊢
 obtain ⟨aa, ac, rfl, hac, hat⟩ := SliceP.at hA
 have HAT := hZ9 hat
 have HATY := hZ9 (fun j (hj : j < A.length) => hAt A[j] (List.getElem_mem hj))
 have HTK := hZ9 (fun j (hj : j < A.length) => FiS.typedE_take Tn A j hj)
 have HLEN : Hid (∀ j, (FiS.typedE Tn (A.take j)).length <= 1048576) := hZ9 (fun j => Nat.le_trans (FiS.typedE_len Tn _) (Nat.le_trans (EnS.sumBy_le A j) hsum))
 have HALL : Hid (A.take A.length = A) := hZ9 (List.take_length)
 clear hat hA hAt hsum hAv
 obtain ⟨NA, hNA⟩ : ∃ k, A.length = k := ⟨_, rfl⟩
 have HNA := hZ9 hNA
 rw [hNA] at hac hAl HALL ⊢
 clear hNA
 go_enter Tryz.func56, Tryz.ntmps56
 go_wp2_with fail
 refine (hty _).mono ?_; rintro e w1 ⟨rfl, hb1⟩
 clear hty
 go_wp2_with fail
 go_loopw [7, 18] (fun o i wr => ∃ j : Nat, j <= NA /\ i = .int .i64 j /\ Own wr w.heap.size o (FiS.typedE Tn (A.take j)) /\ Below w.heap.size w wr) (fun _ i _ => NA - (intOf i).toNat)
 case atStart => exact ⟨0, Nat.zero_le _, rfl, Own.empty _ _, hb1⟩
 case round =>
  obtain ⟨j, hj, rfl, hown, hb⟩ := hrel
  clear hb1
  obtain ⟨oa, oc, rfl⟩ := hown.form
  by_cases hlt : j < NA
  · have hlt2 : j < A.length := by rw [HNA.out]; exact hlt
    obtain ⟨g, o, rfl, hg, _, hra⟩ := HAT.out j hlt2
    obtain ⟨c0, a2, p2, c1, hp2, hu⟩ := AttrAt.parts hra
    have htl := HATY.out j hlt2
    have htk := HTK.out j hlt2
    have hln := HLEN.out (j + 1)
    rw [htk, List.length_append] at hln
    clear hra HAT HATY HTK HLEN
    generalize A[j] = at1 at *
    obtain ⟨ty, vals⟩ := at1
    simp only at c0 c1 hp2 hu htl htk hln
    have hu := hu.strs
    have c0 : wr.cell? ⟨g, o + j * 2, none⟩ = some (.string ⟨ty.toArray⟩) := (hb.cell (p := ⟨g, o + j * 2, none⟩) hg).trans c0
    have c1 : wr.cell? ⟨g, o + j * 2 + 1, none⟩ = some (.slice a2 vals.length p2) := (hb.cell (p := ⟨g, o + j * 2 + 1, none⟩) hg).trans c1
    have hty2 : ∀ W, Calls Tryz.prog 55 #[.string ⟨ty.toArray⟩] W (TypeRet ty W) := fun W => reftype_c ⟨ty.toArray⟩ (by rw [bsize]; omega) W
    unfold TypeRet at hty2
    have hj0 : (0 : Int) <= (j : Int) := by omega
    have hj1 : (j : Int) < (NA : Int) := by omega
    have hty3 := hty2 wr
    clear hty2
    generalize RuS.typeOf ty = TY at *
    obtain ⟨ty1, ty2⟩ := TY
    simp only at hty3 htk hln
    have HTKK := hZ9 htk
    clear htk
    generalize FiS.typedE Tn (A.take j) = Q at *
    obtain ⟨QL, hQL⟩ : ∃ m, Q.length = m := ⟨_, rfl⟩
    have HQL := hZ9 hQL
    rw [hQL] at hown hln ⊢
    clear hQL
    go_wp2_with fail
    refine hty3.mono ?_; rintro e w4 ⟨rfl, hb4⟩
    have hz4 := hb.trans (hb4.mono hb.size)
    have d1 := keepC c1 hb4
    have hown4 := hown.call hb4
    have hu4 := hu.call hz4 (Nat.le_refl _)
    clear hty3 hown c0 c1 hb4 hu
    by_cases hq : ty1 = Tn
    case neg =>
     have hq2 : (ty1 == Tn) = false := by simpa using hq
     rw [if_neg hq, List.append_nil] at HTKK
     clear hln hu4 hq
     go_wp2_with fail
     go_roundw
     case rel => exact ⟨j + 1, by omega, by go_num, by rw [HTKK.out]; exact hown4, hz4⟩
     case measure => simp [intOf]; omega
    have hq2 : (ty1 == Tn) = true := by simpa using hq
    rw [if_pos hq] at HTKK hln
    have hsz4 := hz4.size
    clear hq
    go_wp2_with (at_builtin; refine push_strs (by rfl) _ _ (by rfl) w.heap.size _ Q (by rfl) hown4 _ vals (by rfl) hu4 ?e1 ?e2 ?_)
    case e1 => rw [HQL.out]; omega
    case e2 => exact hsz4
    intro v5 w5 hown5 hb5
    obtain ⟨va, vc, rfl⟩ := hown5.form
    have hz5 := hz4.trans hb5
    have HO5 : Hid (Own w5 w.heap.size (.slice va (Q ++ vals).length vc) (FiS.typedE Tn (A.take (j + 1)))) := hZ9 (by rw [HTKK.out]; exact hown5)
    clear hown4 hown5 hu4 hb5 hz4 d1 HTKK
    go_wp2_with fail
    go_roundw
    case rel => exact ⟨j + 1, by omega, by go_num, HO5.out, hz5⟩
    case measure => simp [intOf]; omega
  · have hjl : j = NA := by omega
    subst hjl
    have HO5 := hZ9 hown
    clear HAT HATY HTK HLEN hown HNA
    go_wp2_with fail
    go_ret
    exact ⟨_, rfl, by
     have h := HO5.out
     have e : A.take j = A := HALL.out
     rw [e] at h
     exact (by rw [e]; exact h : Own wr w.heap.size (.slice oa (FiS.typedE Tn (A.take j)).length oc) (FiS.typedE Tn A)), hb⟩
end
section
namespace FiS
theorem pieces_short {f l s : List UInt8} {any : List (List UInt8)} (h : s.length < f.length + l.length) : piecesS f l any s = false := by
 unfold piecesS
 rw [between_doc, if_pos (.inl h)]
theorem pieces_first {f l s : List UInt8} {any : List (List UInt8)} (h : (s.take f.length == f) = false) : piecesS f l any s = false := by
 unfold piecesS
 rw [between_doc, if_pos (.inr (.inl (by simpa using h)))]
theorem pieces_last {f l s : List UInt8} {any : List (List UInt8)} (h : (s.drop (s.length - l.length) == l) = false) : piecesS f l any s = false := by
 unfold piecesS
 rw [between_doc, if_pos (.inr (.inr (by simpa using h)))]
theorem pieces_mid {f l s : List UInt8} {any : List (List UInt8)} (h : ¬ s.length < f.length + l.length) (h1 : (s.take f.length == f) = true) (h2 : (s.drop (s.length - l.length) == l) = true) : piecesS f l any s = cutsS any ((s.take (s.length - l.length)).drop f.length) := by
 unfold piecesS
 rw [between_doc, if_neg (by
  rintro (h3 | h3 | h3)
  · exact h h3
  · exact h3 (by simpa using h1)
  · exact h3 (by simpa using h2))]
end FiS
open Go.RowKit
open FiS (Fi)
attribute [local go_sem ↓] Go.wp_at_zero Go.wp_at_succ
theorem refpieceslow_c (n : Nat) (x : Fi) (v : Value) (s : List UInt8) (sy : Int) (hsy : sy = 1) (w : World) (h : FiIn n w v x) (hwd : FiS.wdF 20000 x) (hs : s.length <= 20000) : Calls Tryz.prog 59 #[v, .string ⟨s.toArray⟩, .bool true] w (BoolR (FiS.piecesS (FiS.lowIf sy x.first) (FiS.lowIf sy x.last) (x.any.map (FiS.lowIf sy)) s) w) := by
 have hG : ∀ (p : List UInt8) (W : World), p.length <= 20000 -> Calls Tryz.prog 82 #[.string ⟨p.toArray⟩] W fun e w' => e = .returned (.string ⟨(FiS.lowIf sy p).toArray⟩) /\ Below W.heap.size W w' := fun p W hp => by
  have h := reflower_c ⟨p.toArray⟩ (by rw [bsize]; omega) W
  unfold LowRet at h
  have e : FiS.lowIf sy p = RuS.lower p := by unfold FiS.lowIf; rw [if_pos hsy]
  rw [e]
  exact h
 have HG := hZ9 hG
 clear hG
 have HLL : Hid (∀ p, (FiS.lowIf sy p).length = p.length) := hZ9 (fun p => FiS.lowIf_len sy p)
 obtain ⟨kd, at0, vl, fs, ls, an, ps⟩ := x
 obtain ⟨a5, c5, a6, c6, hv, hss, hc6, hps⟩ := FiV.parts h
 have hv : v = .agg #[.int .i64 kd, .string ⟨at0.toArray⟩, .string ⟨vl.toArray⟩, .string ⟨fs.toArray⟩, .string ⟨ls.toArray⟩, .slice a5 an.length c5, .slice a6 ps.length c6] := hv
 subst hv
 have hss : StrsIn w (.slice a5 an.length c5) an := hss
 have hc6 : ps.length <= c6 := hc6
 have hps : FisP n (fun _ => True) w (.slice a6 ps.length c6) ps := hps
 rw [FiS.wdF] at hwd
 obtain ⟨⟨hat0, hvl, hfs, hls⟩, hany, hanys, _, _⟩ := hwd
 have HANY := hZ9 (fun j (hj : j < an.length) => hanys an[j] (List.getElem_mem hj))
 clear hanys
 obtain ⟨AL, hAL⟩ : ∃ m, an.length = m := ⟨_, rfl⟩
 obtain ⟨PL, hPL⟩ : ∃ m, ps.length = m := ⟨_, rfl⟩
 have HAL := hZ9 hAL
 have HPL := hZ9 hPL
 rw [hAL] at hss
 rw [hPL] at hc6 hps
 try rw [hAL]
 try rw [hPL]
 have hg0 := grow1 w (.cells #[.int .i64 kd, .string ⟨at0.toArray⟩, .string ⟨vl.toArray⟩, .string ⟨fs.toArray⟩, .string ⟨ls.toArray⟩, .slice a5 AL c5, .slice a6 PL c6] 25)
 have hw0 := Whole.made w 25 #[.int .i64 kd, .string ⟨at0.toArray⟩, .string ⟨vl.toArray⟩, .string ⟨fs.toArray⟩, .string ⟨ls.toArray⟩, .slice a5 AL c5, .slice a6 PL c6]
 obtain ⟨q0, q1, q2, q3, q4, q5, q6⟩ := hw0.seven
 rw [hAL] at hany
 obtain ⟨a', c', e, hcc, hsc⟩ := SliceP.at (hss.strsP (fun _ => True) (fun _ _ => trivial))
 injection e with e1 e2 e3
 rw [<- e1] at hsc
 have HSC := hZ9 hsc
 have HDR := hZ9 (fun j (hj : j < an.length) => List.drop_eq_getElem_cons hj)
 have HALA : Hid (an.drop AL = []) := hZ9 (by rw [<- hAL]; exact List.drop_length)
 show Calls _ _ _ _ (BoolR (FiS.piecesS (FiS.lowIf sy fs) (FiS.lowIf sy ls) (an.map (FiS.lowIf sy)) s) w)
 clear hsc hss e1 e2 e3 hcc h hps hAL hPL HPL hc6
 have hgf := fun W => HG.out fs W hfs
 have hgl := fun W => HG.out ls W hls
 have hlf := HLL.out fs
 have hll := HLL.out ls
 generalize FiS.lowIf sy fs = F1 at *
 generalize FiS.lowIf sy ls = L1 at *
 rw [<- hlf] at hfs
 rw [<- hll] at hls
 clear hlf hll
 have HP1 := hZ9 (@FiS.pieces_short F1 L1 s (an.map (FiS.lowIf sy)))
 have HP2 := hZ9 (@FiS.pieces_first F1 L1 s (an.map (FiS.lowIf sy)))
 have HP3 := hZ9 (@FiS.pieces_last F1 L1 s (an.map (FiS.lowIf sy)))
 have HP4 := hZ9 (@FiS.pieces_mid F1 L1 s (an.map (FiS.lowIf sy)))
 obtain ⟨R, hR⟩ : ∃ r, FiS.piecesS F1 L1 (an.map (FiS.lowIf sy)) s = r := ⟨_, rfl⟩
 rw [hR] at HP1 HP2 HP3 HP4 ⊢
 clear hR
 unfold BoolR
 have HX : Hid (∀ a b, (⟨s.toArray⟩ : ByteArray).extract a b = ⟨((s.take b).drop a).toArray⟩) := hZ9 (fun a b => mk_extract s a b)
 have HTA : Hid (s.take s.length = s) := hZ9 (List.take_length)
 go_enter Tryz.func59, Tryz.ntmps59
 go_wp2_with fail
 go_quiet (fail)
 have hd0 := below_drewN (w.alloc (.cells #[.int .i64 kd, .string ⟨at0.toArray⟩, .string ⟨vl.toArray⟩, .string ⟨fs.toArray⟩, .string ⟨ls.toArray⟩, .slice a5 AL c5, .slice a6 PL c6] 25)) nq
 have hg1 := hg0.trans (hd0.mono hg0.size)
 have hw1 := hw0.call hd0
 generalize (w.alloc (.cells #[.int .i64 kd, .string ⟨at0.toArray⟩, .string ⟨vl.toArray⟩, .string ⟨fs.toArray⟩, .string ⟨ls.toArray⟩, .slice a5 AL c5, .slice a6 PL c6] 25)).drewN nq = w1 at *
 clear q0 q1 q2 q3 q4 q5 q6 hw0 hg0 hd0
 obtain ⟨q0, q1, q2, q3, q4, q5, q6⟩ := hw1.seven
 go_wp2_with fail
 refine (hgf _).mono ?_; rintro e w2 ⟨rfl, hb2⟩
 have hz2 := hg1.trans (hb2.mono hg1.size)
 have hw2 := hw1.call hb2
 clear hgf q0 q1 q2 q3 q4 q5 q6
 go_wp2_with fail
 refine (hgl _).mono ?_; rintro e w4 ⟨rfl, hb4⟩
 have hz4 := hz2.trans (hb4.mono hz2.size)
 have hw4 := hw2.call hb4
 clear hgl hw2 hb2 hb4 hz2 hw1 hg1
 by_cases hsh : s.length < F1.length + L1.length
 case pos =>
  have hs1 : (s.length : Int) < (F1.length : Int) + (L1.length : Int) := by omega
  have hs2 : decide ((s.length : Int) < (F1.length : Int) + (L1.length : Int)) = true := decide_eq_true hs1
  have HRR : Hid (R = false) := hZ9 (HP1.out hsh)
  clear HP1 HP2 HP3 HP4 HX HTA HSC HDR HALA HANY HLL HG
  go_wp2_with fail
  go_ret
  exact ⟨by (rw [HRR.out]) <;> rfl, hz4⟩
 have hs2 : decide ((s.length : Int) < (F1.length : Int) + (L1.length : Int)) = false := decide_eq_false (by omega)
 have hs3 : (F1.length : Int) + (L1.length : Int) <= (s.length : Int) := by omega
 have hf0 : (F1.length : Int) <= (s.length : Int) := by omega
 have hxa := HX.out 0 F1.length
 rw [List.drop_zero] at hxa
 have HP42 := hZ9 (HP4.out hsh)
 have hEN0 : L1.length <= s.length := by omega
 clear HP1 HP4
 obtain ⟨qa, hqa⟩ : ∃ q, s.take F1.length = q := ⟨_, rfl⟩
 rw [hqa] at hxa HP2 HP42
 clear hqa
 cases hq : (qa == F1) with
 | false =>
  have hqn : (qa != F1) = true := by simpa using hq
  have HRR : Hid (R = false) := hZ9 (HP2.out hq)
  clear HP2 HP3 HP42 HX HTA HSC HDR HALA HANY HLL HG
  go_wp2_with fail
  go_ret
  exact ⟨by (rw [HRR.out]) <;> rfl, hz4⟩
 | true =>
 have hqn : (qa != F1) = false := by simpa using hq
 have HP43 := hZ9 (HP42.out hq)
 obtain ⟨EN, hEN⟩ : ∃ e, s.length - L1.length = e := ⟨_, rfl⟩
 have hsub : (s.length : Int) - (L1.length : Int) = (EN : Int) := by omega
 have hE1 : EN <= s.length := by omega
 have hE2 : F1.length <= EN := by omega
 have hE3 : (EN : Int) <= (s.length : Int) := by omega
 have hxb := HX.out EN s.length
 rw [HTA.out] at hxb
 rw [hEN] at HP3 HP43
 clear HP2 HP42
 obtain ⟨qb, hqb⟩ : ∃ q, s.drop EN = q := ⟨_, rfl⟩
 rw [hqb] at hxb HP3 HP43
 clear hqb hEN
 cases hr : (qb == L1) with
 | false =>
  have hrn : (qb != L1) = true := by simpa using hr
  have HRR : Hid (R = false) := hZ9 (HP3.out hr)
  clear HP3 HP43 HX HTA HSC HDR HALA HANY HLL HG
  go_wp2_with fail
  go_ret
  exact ⟨by (rw [HRR.out]) <;> rfl, hz4⟩
 | true =>
 have hrn : (qb != L1) = false := by simpa using hr
 have HRC := hZ9 (HP43.out hr)
 have hxe := HX.out 0 EN
 rw [List.drop_zero] at hxe
 have hte : (s.take EN).length = EN := by rw [List.length_take]; omega
 clear HP3 HP43 HX HTA
 obtain ⟨te, hteq⟩ : ∃ q, s.take EN = q := ⟨_, rfl⟩
 rw [hteq] at hxe hte HRC
 clear hteq
 obtain ⟨q0, q1, q2, q3, q4, q5, q6⟩ := hw4.seven
 go_wp2_with fail
 clear q0 q1 q2 q3 q4 q5 q6 hxa hxb hq hqn hr hrn
 go_loopw [9, 60] (fun a i wr => ∃ (j k : Nat), j <= AL /\ i = .int .i64 j /\ a = .int .i64 k /\ k <= EN /\ Hid (R = FiS.cutsS ((an.drop j).map (FiS.lowIf sy)) (te.drop k)) /\ Whole wr w.heap.size 25 #[.int .i64 kd, .string ⟨at0.toArray⟩, .string ⟨vl.toArray⟩, .string ⟨fs.toArray⟩, .string ⟨ls.toArray⟩, .slice a5 AL c5, .slice a6 PL c6] /\ Below w.heap.size w wr) (fun _ i _ => AL - (intOf i).toNat)
 case atStart => exact ⟨0, F1.length, Nat.zero_le _, rfl, rfl, hE2, hZ9 (by rw [HRC.out, List.drop_zero]), hw4, hz4⟩
 case round =>
  obtain ⟨j, k, hj, rfl, rfl, hk, HQ, hw, hb⟩ := hrel
  clear hz4 hw4 HRC
  obtain ⟨q0, q1, q2, q3, q4, q5, q6⟩ := hw.seven
  by_cases hlt : j < AL
  · have hlt2 : j < an.length := by rw [HAL.out]; exact hlt
    have HDj := hZ9 (HDR.out j hlt2)
    have hpl2 := HANY.out j hlt2
    obtain ⟨g, o, hae, hg, _, hra⟩ := HSC.out j hlt2
    have hcj : wr.cell? ⟨g, o + j, none⟩ = some (strV an[j]) := by
     have : w.cell? ⟨g, o + j * 1, none⟩ = some (strV an[j]) := hra
     rw [Nat.mul_one] at this
     exact keepC this hb
    clear hra HSC HDR HANY HALA
    subst hae
    generalize an[j] = p at *
    unfold strV at hcj
    have hplen := HLL.out p
    have HQ2 : Hid (R = if 0 <= Lib.index (te.drop k) (FiS.lowIf sy p) then FiS.cutsS ((an.drop (j + 1)).map (FiS.lowIf sy)) ((te.drop k).drop ((Lib.index (te.drop k) (FiS.lowIf sy p)).toNat + (FiS.lowIf sy p).length)) else false) := hZ9 (by rw [HQ.out, HDj.out, List.map_cons, FiS.cutsS])
    clear HQ HDj HLL
    have hgp := HG.out p wr hpl2
    generalize FiS.lowIf sy p = P1 at *
    clear HG
    have hl0 : (0 : Int) <= (j : Int) := by omega
    have hl1 : (j : Int) < (AL : Int) := by omega
    have hP1 : P1.length <= 20000 := by omega
    have hfi := fun W => reffindp_c te P1 k (k : Int) rfl (by omega) (by omega) hP1 W
    have hEN1 : (0 : Int) <= (EN : Int) := by omega
    clear hpl2
    by_cases hix : 0 <= Lib.index (te.drop k) P1
    · obtain ⟨i, hi, hfn, hkl, hdd⟩ := FiS.findN_found hix (by omega)
      have HRN : Hid (R = FiS.cutsS ((an.drop (j + 1)).map (FiS.lowIf sy)) (te.drop (k + i + P1.length))) := hZ9 (by rw [HQ2.out, if_pos hix, hi, Int.toNat_natCast, hdd])
      rw [hfn] at hfi
      have hn0 : decide (((k + i : Nat) : Int) < 0) = false := decide_eq_false (by omega)
      clear hix hi hfn hdd HQ2
      obtain ⟨ki, hki⟩ : ∃ m, k + i = m := ⟨_, rfl⟩
      rw [hki] at hfi HRN hkl hn0
      have hkle : ki + P1.length <= EN := by omega
      have hkl2 : (ki : Int) + (P1.length : Int) <= 20000 := by omega
      have hki0 : (0 : Int) <= (ki : Int) := by omega
      clear hki hkl
      go_wp2_with fail
      refine hgp.mono ?_; rintro e w6 ⟨rfl, hb6⟩
      have hz6 := hb.trans (hb6.mono hb.size)
      have hw6 := hw.call hb6
      clear hgp q0 q1 q2 q3 q4 q5 q6 hb6
      go_wp2_with fail
      refine (hfi _).mono ?_; rintro e w7 ⟨rfl, rfl⟩
      clear hfi
      go_wp2_with fail
      go_roundw
      case rel => exact ⟨j + 1, ki + P1.length, by omega, by go_num, by first | rfl | go_num, hkle, HRN, hw6, hz6⟩
      case measure => simp [intOf]; omega
    · have HRN : Hid (R = false) := hZ9 (by rw [HQ2.out, if_neg hix])
      have hfn : FiS.findN te P1 k = -1 := by unfold FiS.findN; rw [if_neg hix]
      rw [hfn] at hfi
      clear hix hfn HQ2
      go_wp2_with fail
      refine hgp.mono ?_; rintro e w6 ⟨rfl, hb6⟩
      have hz6 := hb.trans (hb6.mono hb.size)
      have hw6 := hw.call hb6
      clear hgp q0 q1 q2 q3 q4 q5 q6 hb6
      go_wp2_with fail
      refine (hfi _).mono ?_; rintro e w7 ⟨rfl, rfl⟩
      clear hfi
      go_wp2_with fail
      go_ret
      exact ⟨by (rw [HRN.out]) <;> rfl, hz6⟩
  · have hjl : j = AL := by omega
    subst hjl
    have HRN : Hid (R = true) := hZ9 (by rw [HQ.out, HALA.out]; rfl)
    clear HSC HDR HANY HALA HQ HLL HG
    go_wp2_with fail
    go_ret
    exact ⟨by (rw [HRN.out]) <;> rfl, hb⟩
theorem refpiecesid_c (n : Nat) (x : Fi) (v : Value) (s : List UInt8) (sy : Int) (hsy : sy ≠ 1) (w : World) (h : FiIn n w v x) (hwd : FiS.wdF 20000 x) (hs : s.length <= 20000) : Calls Tryz.prog 59 #[v, .string ⟨s.toArray⟩, .bool false] w (BoolR (FiS.piecesS (FiS.lowIf sy x.first) (FiS.lowIf sy x.last) (x.any.map (FiS.lowIf sy)) s) w) := by
 have HID : Hid (∀ p, FiS.lowIf sy p = p) := hZ9 (fun p => by unfold FiS.lowIf; rw [if_neg hsy])
 have HLL : Hid (∀ p, (FiS.lowIf sy p).length = p.length) := hZ9 (fun p => FiS.lowIf_len sy p)
 obtain ⟨kd, at0, vl, fs, ls, an, ps⟩ := x
 obtain ⟨a5, c5, a6, c6, hv, hss, hc6, hps⟩ := FiV.parts h
 have hv : v = .agg #[.int .i64 kd, .string ⟨at0.toArray⟩, .string ⟨vl.toArray⟩, .string ⟨fs.toArray⟩, .string ⟨ls.toArray⟩, .slice a5 an.length c5, .slice a6 ps.length c6] := hv
 subst hv
 have hss : StrsIn w (.slice a5 an.length c5) an := hss
 have hc6 : ps.length <= c6 := hc6
 have hps : FisP n (fun _ => True) w (.slice a6 ps.length c6) ps := hps
 rw [FiS.wdF] at hwd
 obtain ⟨⟨hat0, hvl, hfs, hls⟩, hany, hanys, _, _⟩ := hwd
 have HANY := hZ9 (fun j (hj : j < an.length) => hanys an[j] (List.getElem_mem hj))
 clear hanys
 obtain ⟨AL, hAL⟩ : ∃ m, an.length = m := ⟨_, rfl⟩
 obtain ⟨PL, hPL⟩ : ∃ m, ps.length = m := ⟨_, rfl⟩
 have HAL := hZ9 hAL
 have HPL := hZ9 hPL
 rw [hAL] at hss
 rw [hPL] at hc6 hps
 try rw [hAL]
 try rw [hPL]
 have hg0 := grow1 w (.cells #[.int .i64 kd, .string ⟨at0.toArray⟩, .string ⟨vl.toArray⟩, .string ⟨fs.toArray⟩, .string ⟨ls.toArray⟩, .slice a5 AL c5, .slice a6 PL c6] 25)
 have hw0 := Whole.made w 25 #[.int .i64 kd, .string ⟨at0.toArray⟩, .string ⟨vl.toArray⟩, .string ⟨fs.toArray⟩, .string ⟨ls.toArray⟩, .slice a5 AL c5, .slice a6 PL c6]
 obtain ⟨q0, q1, q2, q3, q4, q5, q6⟩ := hw0.seven
 rw [hAL] at hany
 obtain ⟨a', c', e, hcc, hsc⟩ := SliceP.at (hss.strsP (fun _ => True) (fun _ _ => trivial))
 injection e with e1 e2 e3
 rw [<- e1] at hsc
 have HSC := hZ9 hsc
 have HDR := hZ9 (fun j (hj : j < an.length) => List.drop_eq_getElem_cons hj)
 have HALA : Hid (an.drop AL = []) := hZ9 (by rw [<- hAL]; exact List.drop_length)
 show Calls _ _ _ _ (BoolR (FiS.piecesS (FiS.lowIf sy fs) (FiS.lowIf sy ls) (an.map (FiS.lowIf sy)) s) w)
 clear hsc hss e1 e2 e3 hcc h hps hAL hPL HPL hc6
 rw [HID.out fs, HID.out ls]
 obtain ⟨F1, hF1⟩ : ∃ f, f = fs := ⟨_, rfl⟩
 obtain ⟨L1, hL1⟩ : ∃ f, f = ls := ⟨_, rfl⟩
 subst hF1
 subst hL1
 have HP1 := hZ9 (@FiS.pieces_short F1 L1 s (an.map (FiS.lowIf sy)))
 have HP2 := hZ9 (@FiS.pieces_first F1 L1 s (an.map (FiS.lowIf sy)))
 have HP3 := hZ9 (@FiS.pieces_last F1 L1 s (an.map (FiS.lowIf sy)))
 have HP4 := hZ9 (@FiS.pieces_mid F1 L1 s (an.map (FiS.lowIf sy)))
 obtain ⟨R, hR⟩ : ∃ r, FiS.piecesS F1 L1 (an.map (FiS.lowIf sy)) s = r := ⟨_, rfl⟩
 rw [hR] at HP1 HP2 HP3 HP4 ⊢
 clear hR
 unfold BoolR
 have HX : Hid (∀ a b, (⟨s.toArray⟩ : ByteArray).extract a b = ⟨((s.take b).drop a).toArray⟩) := hZ9 (fun a b => mk_extract s a b)
 have HTA : Hid (s.take s.length = s) := hZ9 (List.take_length)
 go_enter Tryz.func59, Tryz.ntmps59
 go_wp2_with fail
 go_quiet (fail)
 have hd0 := below_drewN (w.alloc (.cells #[.int .i64 kd, .string ⟨at0.toArray⟩, .string ⟨vl.toArray⟩, .string ⟨F1.toArray⟩, .string ⟨L1.toArray⟩, .slice a5 AL c5, .slice a6 PL c6] 25)) nq
 have hg1 := hg0.trans (hd0.mono hg0.size)
 have hw1 := hw0.call hd0
 generalize (w.alloc (.cells #[.int .i64 kd, .string ⟨at0.toArray⟩, .string ⟨vl.toArray⟩, .string ⟨F1.toArray⟩, .string ⟨L1.toArray⟩, .slice a5 AL c5, .slice a6 PL c6] 25)).drewN nq = w1 at *
 clear q0 q1 q2 q3 q4 q5 q6 hw0 hg0 hd0
 obtain ⟨q0, q1, q2, q3, q4, q5, q6⟩ := hw1.seven
 generalize w1 = w4 at *
 have hz4 := hg1
 have hw4 := hw1
 clear q0 q1 q2 q3 q4 q5 q6 hw1 hg1
 go_upto_region 4 with fail
 by_cases hsh : s.length < F1.length + L1.length
 case pos =>
  have hs1 : (s.length : Int) < (F1.length : Int) + (L1.length : Int) := by omega
  have hs2 : decide ((s.length : Int) < (F1.length : Int) + (L1.length : Int)) = true := decide_eq_true hs1
  have HRR : Hid (R = false) := hZ9 (HP1.out hsh)
  clear HP1 HP2 HP3 HP4 HX HTA HSC HDR HALA HANY HLL HID
  go_wp2_with fail
  go_ret
  exact ⟨by (rw [HRR.out]) <;> rfl, hz4⟩
 have hs2 : decide ((s.length : Int) < (F1.length : Int) + (L1.length : Int)) = false := decide_eq_false (by omega)
 have hs3 : (F1.length : Int) + (L1.length : Int) <= (s.length : Int) := by omega
 have hf0 : (F1.length : Int) <= (s.length : Int) := by omega
 have hxa := HX.out 0 F1.length
 rw [List.drop_zero] at hxa
 have HP42 := hZ9 (HP4.out hsh)
 have hEN0 : L1.length <= s.length := by omega
 clear HP1 HP4
 obtain ⟨qa, hqa⟩ : ∃ q, s.take F1.length = q := ⟨_, rfl⟩
 rw [hqa] at hxa HP2 HP42
 clear hqa
 cases hq : (qa == F1) with
 | false =>
  have hqn : (qa != F1) = true := by simpa using hq
  have HRR : Hid (R = false) := hZ9 (HP2.out hq)
  clear HP2 HP3 HP42 HX HTA HSC HDR HALA HANY HLL HID
  go_wp2_with fail
  go_ret
  exact ⟨by (rw [HRR.out]) <;> rfl, hz4⟩
 | true =>
 have hqn : (qa != F1) = false := by simpa using hq
 have HP43 := hZ9 (HP42.out hq)
 obtain ⟨EN, hEN⟩ : ∃ e, s.length - L1.length = e := ⟨_, rfl⟩
 have hsub : (s.length : Int) - (L1.length : Int) = (EN : Int) := by omega
 have hE1 : EN <= s.length := by omega
 have hE2 : F1.length <= EN := by omega
 have hE3 : (EN : Int) <= (s.length : Int) := by omega
 have hxb := HX.out EN s.length
 rw [HTA.out] at hxb
 rw [hEN] at HP3 HP43
 clear HP2 HP42
 obtain ⟨qb, hqb⟩ : ∃ q, s.drop EN = q := ⟨_, rfl⟩
 rw [hqb] at hxb HP3 HP43
 clear hqb hEN
 cases hr : (qb == L1) with
 | false =>
  have hrn : (qb != L1) = true := by simpa using hr
  have HRR : Hid (R = false) := hZ9 (HP3.out hr)
  clear HP3 HP43 HX HTA HSC HDR HALA HANY HLL HID
  go_wp2_with fail
  go_ret
  exact ⟨by (rw [HRR.out]) <;> rfl, hz4⟩
 | true =>
 have hrn : (qb != L1) = false := by simpa using hr
 have HRC := hZ9 (HP43.out hr)
 have hxe := HX.out 0 EN
 rw [List.drop_zero] at hxe
 have hte : (s.take EN).length = EN := by rw [List.length_take]; omega
 clear HP3 HP43 HX HTA
 obtain ⟨te, hteq⟩ : ∃ q, s.take EN = q := ⟨_, rfl⟩
 rw [hteq] at hxe hte HRC
 clear hteq
 obtain ⟨q0, q1, q2, q3, q4, q5, q6⟩ := hw4.seven
 go_wp2_with fail
 clear q0 q1 q2 q3 q4 q5 q6 hxa hxb hq hqn hr hrn
 go_loopw [9, 60] (fun a i wr => ∃ (j k : Nat), j <= AL /\ i = .int .i64 j /\ a = .int .i64 k /\ k <= EN /\ Hid (R = FiS.cutsS ((an.drop j).map (FiS.lowIf sy)) (te.drop k)) /\ Whole wr w.heap.size 25 #[.int .i64 kd, .string ⟨at0.toArray⟩, .string ⟨vl.toArray⟩, .string ⟨F1.toArray⟩, .string ⟨L1.toArray⟩, .slice a5 AL c5, .slice a6 PL c6] /\ Below w.heap.size w wr) (fun _ i _ => AL - (intOf i).toNat)
 case atStart => exact ⟨0, F1.length, Nat.zero_le _, rfl, rfl, hE2, hZ9 (by rw [HRC.out, List.drop_zero]), hw4, hz4⟩
 case round =>
  obtain ⟨j, k, hj, rfl, rfl, hk, HQ, hw, hb⟩ := hrel
  clear hz4 hw4 HRC
  obtain ⟨q0, q1, q2, q3, q4, q5, q6⟩ := hw.seven
  by_cases hlt : j < AL
  · have hlt2 : j < an.length := by rw [HAL.out]; exact hlt
    have HDj := hZ9 (HDR.out j hlt2)
    have hpl2 := HANY.out j hlt2
    obtain ⟨g, o, hae, hg, _, hra⟩ := HSC.out j hlt2
    have hcj : wr.cell? ⟨g, o + j, none⟩ = some (strV an[j]) := by
     have : w.cell? ⟨g, o + j * 1, none⟩ = some (strV an[j]) := hra
     rw [Nat.mul_one] at this
     exact keepC this hb
    clear hra HSC HDR HANY HALA
    subst hae
    generalize an[j] = p at *
    unfold strV at hcj
    have hplen := HLL.out p
    have HQ2 : Hid (R = if 0 <= Lib.index (te.drop k) (FiS.lowIf sy p) then FiS.cutsS ((an.drop (j + 1)).map (FiS.lowIf sy)) ((te.drop k).drop ((Lib.index (te.drop k) (FiS.lowIf sy p)).toNat + (FiS.lowIf sy p).length)) else false) := hZ9 (by rw [HQ.out, HDj.out, List.map_cons, FiS.cutsS])
    clear HQ HDj HLL
    obtain ⟨P1, hP1e⟩ : ∃ q, q = p := ⟨_, rfl⟩
    subst hP1e
    rw [HID.out P1] at HQ2 hplen
    clear HID
    have hl0 : (0 : Int) <= (j : Int) := by omega
    have hl1 : (j : Int) < (AL : Int) := by omega
    have hP1 : P1.length <= 20000 := by omega
    have hfi := fun W => reffindp_c te P1 k (k : Int) rfl (by omega) (by omega) hP1 W
    have hEN1 : (0 : Int) <= (EN : Int) := by omega
    clear hpl2
    by_cases hix : 0 <= Lib.index (te.drop k) P1
    · obtain ⟨i, hi, hfn, hkl, hdd⟩ := FiS.findN_found hix (by omega)
      have HRN : Hid (R = FiS.cutsS ((an.drop (j + 1)).map (FiS.lowIf sy)) (te.drop (k + i + P1.length))) := hZ9 (by rw [HQ2.out, if_pos hix, hi, Int.toNat_natCast, hdd])
      rw [hfn] at hfi
      have hn0 : decide (((k + i : Nat) : Int) < 0) = false := decide_eq_false (by omega)
      clear hix hi hfn hdd HQ2
      obtain ⟨ki, hki⟩ : ∃ m, k + i = m := ⟨_, rfl⟩
      rw [hki] at hfi HRN hkl hn0
      have hkle : ki + P1.length <= EN := by omega
      have hkl2 : (ki : Int) + (P1.length : Int) <= 20000 := by omega
      have hki0 : (0 : Int) <= (ki : Int) := by omega
      clear hki hkl
      go_wp2_with fail
      refine (hfi _).mono ?_; rintro e w7 ⟨rfl, rfl⟩
      clear hfi
      go_wp2_with fail
      go_roundw
      case rel => exact ⟨j + 1, ki + P1.length, by omega, by go_num, by first | rfl | go_num, hkle, HRN, hw, hb⟩
      case measure => simp [intOf]; omega
    · have HRN : Hid (R = false) := hZ9 (by rw [HQ2.out, if_neg hix])
      have hfn : FiS.findN te P1 k = -1 := by unfold FiS.findN; rw [if_neg hix]
      rw [hfn] at hfi
      clear hix hfn HQ2
      go_wp2_with fail
      refine (hfi _).mono ?_; rintro e w7 ⟨rfl, rfl⟩
      clear hfi
      go_wp2_with fail
      go_ret
      exact ⟨by (rw [HRN.out]) <;> rfl, hb⟩
  · have hjl : j = AL := by omega
    subst hjl
    have HRN : Hid (R = true) := hZ9 (by rw [HQ.out, HALA.out]; rfl)
    clear HSC HDR HANY HALA HQ HLL HID
    go_wp2_with fail
    go_ret
    exact ⟨by (rw [HRN.out]) <;> rfl, hb⟩
end
section
open Go.RowKit
open FiS (Fi)
attribute [local go_sem ↓] Go.wp_at_zero Go.wp_at_succ
theorem refmatches_c (n : Nat) (x : Fi) (v : Value) (t : List UInt8) (w : World) (hk4 : x.kind ≠ 4) (h : FiIn n w v x) (hwd : FiS.wdF 20000 x) (ht : t.length <= 1000000) (hE : Env w) : Calls Tryz.prog 61 #[v, .string ⟨t.toArray⟩] w (BoolR (FiS.valueE x.kind x.attr x.value x.first x.last x.any t) w) := by
 have hA : x.attr.length <= 20000 /\ x.value.length <= 20000 := by
  cases x
  rw [FiS.wdF] at hwd
  exact ⟨hwd.1.1, hwd.1.2.1⟩
 have HVE : Hid (FiS.valueE x.kind x.attr x.value x.first x.last x.any t = if (DnS.valueS x.attr t).2 = 0 then
  (if x.kind = 3 \/ (RuS.typeOf x.attr).2 = 5 then (DnS.valueS x.attr t).1 == (DnS.valueS x.attr x.value).1
  else if x.kind = 8 then nearB x.attr t x.value
  else decide (x.kind = 5 /\ 0 <= cmpB x.attr t x.value \/ x.kind = 6 /\ cmpB x.attr t x.value <= 0)) else false) := hZ9 (by unfold FiS.valueE; rw [if_neg hk4])
 clear hwd hk4
 obtain ⟨a5, c5, a6, c6, hv, hss, hc6, hps⟩ := FiV.parts h
 clear hss hps
 obtain ⟨R, hR⟩ : ∃ r, FiS.valueE x.kind x.attr x.value x.first x.last x.any t = r := ⟨_, rfl⟩
 rw [hR] at HVE ⊢
 clear hR h
 generalize x.any.length = AL at *
 generalize x.parts.length = PL at *
 generalize x.kind = kd at *
 generalize x.attr = at0 at *
 generalize x.value = vl at *
 generalize x.first = fs at *
 generalize x.last = ls at *
 subst hv
 unfold BoolR at *
 have hg0 := grow1 w (.cells #[.int .i64 kd, .string ⟨at0.toArray⟩, .string ⟨vl.toArray⟩, .string ⟨fs.toArray⟩, .string ⟨ls.toArray⟩, .slice a5 AL c5, .slice a6 PL c6] 25)
 have hw0 := Whole.made w 25 #[.int .i64 kd, .string ⟨at0.toArray⟩, .string ⟨vl.toArray⟩, .string ⟨fs.toArray⟩, .string ⟨ls.toArray⟩, .slice a5 AL c5, .slice a6 PL c6]
 obtain ⟨q0, q1, q2, q3, q4, q5, q6⟩ := hw0.seven
 obtain ⟨hat0, hvl⟩ := hA
 have hty : ∀ W, Calls Tryz.prog 55 #[.string ⟨at0.toArray⟩] W (TypeRet at0 W) := fun W => reftype_c ⟨at0.toArray⟩ (by rw [bsize]; omega) W
 have hdv := fun W hE => rnvalue_c at0 t (by omega) ht W hE
 have hdw := fun W hE => rnvalue_c at0 vl (by omega) (by omega) W hE
 have hnr : ∀ W, Env W -> Calls Tryz.prog 88 #[.string ⟨at0.toArray⟩, .string ⟨t.toArray⟩, .string ⟨vl.toArray⟩] W (NearRet at0 t vl W) := fun W hE => refnear_c ⟨at0.toArray⟩ ⟨t.toArray⟩ ⟨vl.toArray⟩ (by rw [bsize]; omega) (by rw [bsize]; omega) (by rw [bsize]; omega) W hE
 have hcr : ∀ W, Env W -> Calls Tryz.prog 89 #[.string ⟨at0.toArray⟩, .string ⟨t.toArray⟩, .string ⟨vl.toArray⟩] W (CmpRet at0 t vl W) := fun W hE => refcompareV_c ⟨at0.toArray⟩ ⟨t.toArray⟩ ⟨vl.toArray⟩ (by rw [bsize]; omega) (by rw [bsize]; omega) (by rw [bsize]; omega) W hE
 unfold TypeRet at hty
 unfold NmTxt at hdv hdw
 unfold NearRet at hnr
 unfold CmpRet at hcr
 have hE0 := hE.below hg0
 generalize DnS.valueS at0 t = X at *
 generalize DnS.valueS at0 vl = Y at *
 generalize RuS.typeOf at0 = TT at *
 generalize nearB at0 t vl = NB at *
 generalize cmpB at0 t vl = CB at *
 generalize errB at0 t vl = EB at *
 obtain ⟨X1, X2⟩ := X
 obtain ⟨Y1, Y2⟩ := Y
 obtain ⟨Tn, sy⟩ := TT
 simp only at hdv hdw hty HVE
 go_enter Tryz.func61, Tryz.ntmps61
 go_wp2_with fail
 refine (hty _).mono ?_; rintro e w1 ⟨rfl, hb1⟩
 have hz1 := hg0.trans (hb1.mono hg0.size)
 have hw1 := hw0.call hb1
 have hE1 := hE0.below hb1
 have hdv1 := hdv _ hE1
 clear hty hdv q0 q1 q2 q3 q4 q5 q6 hw0 hE0 hg0 hb1
 obtain ⟨q0, q1, q2, q3, q4, q5, q6⟩ := hw1.seven
 go_wp2_with fail
 refine hdv1.mono ?_; rintro e w2 ⟨rfl, hb2⟩
 have hz2 := hz1.trans (hb2.mono hz1.size)
 have hw2 := hw1.call hb2
 have hE2 := hE1.below hb2
 have hdw2 := hdw _ hE2
 clear hdv1 hdw q0 q1 q2 q3 q4 q5 q6 hw1 hE1 hz1 hb2
 by_cases hx2 : X2 = 0
 case neg =>
  have HRR : Hid (R = false) := hZ9 (by rw [HVE.out, if_neg hx2])
  have hn2 : (X2 != 0) = true := by simpa using hx2
  clear HVE hdw2 hnr hcr
  go_wp2_with fail
  go_ret
  exact ⟨by (rw [HRR.out]) <;> rfl, hz2⟩
 subst hx2
 have HVE2 := hZ9 ((HVE.out).trans (if_pos (by first | rfl | trivial)))
 clear HVE
 obtain ⟨q0, q1, q2, q3, q4, q5, q6⟩ := hw2.seven
 go_wp2_with fail
 refine hdw2.mono ?_; rintro e w3 ⟨rfl, hb3⟩
 have hz3 := hz2.trans (hb3.mono hz2.size)
 have hw3 := hw2.call hb3
 have hE3 := hE2.below hb3
 have hnr3 := hnr _ hE3
 have hcr3 := hcr _ hE3
 clear hdw2 hnr hcr q0 q1 q2 q3 q4 q5 q6 hw2 hE2 hz2 hb3
 obtain ⟨q0, q1, q2, q3, q4, q5, q6⟩ := hw3.seven
 by_cases h35 : kd = 3 \/ sy = 5
 · have HRR : Hid (R = (X1 == Y1)) := hZ9 (by rw [HVE2.out, if_pos h35])
   have hd : (kd == 3) = true \/ ((kd == 3) = false /\ (sy == 5) = true) := by
    by_cases h3 : kd = 3
    · exact .inl (by simpa using h3)
    · exact .inr ⟨by simpa using h3, by simpa using h35.resolve_left h3⟩
   clear HVE2 h35 hnr3 hcr3
   rcases hd with k3 | ⟨k3, s5⟩
   · go_wp2_with fail
     go_ret
     exact ⟨by (rw [HRR.out]) <;> rfl, hz3⟩
   · go_wp2_with fail
     go_ret
     exact ⟨by (rw [HRR.out]) <;> rfl, hz3⟩
 have k3 : (kd == 3) = false := by simpa using fun h => h35 (.inl h)
 have s5 : (sy == 5) = false := by simpa using fun h => h35 (.inr h)
 by_cases hk8 : kd = 8
 · have HRR : Hid (R = NB) := hZ9 (by rw [HVE2.out, if_neg h35, if_pos hk8])
   subst hk8
   clear HVE2 h35 hcr3
   go_wp2_with fail
   refine hnr3.mono ?_; rintro e w4 ⟨rfl, hb4⟩
   have hz4 := hz3.trans (hb4.mono hz3.size)
   clear hnr3 q0 q1 q2 q3 q4 q5 q6
   go_wp2_with fail
   go_ret
   exact ⟨by (rw [HRR.out]) <;> rfl, hz4⟩
 have k8 : (kd == 8) = false := by simpa using hk8
 have HRR : Hid (R = decide (kd = 5 /\ 0 <= CB \/ kd = 6 /\ CB <= 0)) := hZ9 (by rw [HVE2.out, if_neg h35, if_neg hk8])
 clear HVE2 h35 hk8 hnr3
 go_wp2_with fail
 refine hcr3.mono ?_; rintro e w4 ⟨rfl, hb4⟩
 have hz4 := hz3.trans (hb4.mono hz3.size)
 have hw4 := hw3.call hb4
 clear hcr3 q0 q1 q2 q3 q4 q5 q6 hw3 hz3 hb4
 obtain ⟨q0, q1, q2, q3, q4, q5, q6⟩ := hw4.seven
 by_cases hk5 : kd = 5
 · have HR2 : Hid (R = decide (0 <= CB)) := hZ9 (by rw [HRR.out]; exact decide_eq_decide.2 ⟨fun h => by omega, fun h => .inl ⟨hk5, h⟩⟩)
   subst hk5
   clear HRR
   by_cases hc0 : 0 <= CB
   · have hd1 : decide (0 <= CB) = true := decide_eq_true hc0
     go_wp2_with fail
     go_ret
     exact ⟨by (rw [HR2.out, hd1]) <;> rfl, hz4⟩
   · have hd1 : decide (0 <= CB) = false := decide_eq_false hc0
     go_wp2_with fail
     go_ret
     exact ⟨by (rw [HR2.out, hd1]) <;> rfl, hz4⟩
 have k5 : (kd == 5) = false := by simpa using hk5
 by_cases hk6 : kd = 6
 · have HR2 : Hid (R = decide (CB <= 0)) := hZ9 (by rw [HRR.out]; exact decide_eq_decide.2 ⟨fun h => by omega, fun h => .inr ⟨hk6, h⟩⟩)
   subst hk6
   clear HRR hk5
   by_cases hc0 : CB <= 0
   · have hd1 : decide (CB <= 0) = true := decide_eq_true hc0
     go_wp2_with fail
     go_ret
     exact ⟨by (rw [HR2.out, hd1]) <;> rfl, hz4⟩
   · have hd1 : decide (CB <= 0) = false := decide_eq_false hc0
     go_wp2_with fail
     go_ret
     exact ⟨by (rw [HR2.out, hd1]) <;> rfl, hz4⟩
 have k6 : (kd == 6) = false := by simpa using hk6
 have HR2 : Hid (R = false) := hZ9 (by rw [HRR.out]; exact decide_eq_false (by omega))
 clear HRR hk5 hk6
 go_wp2_with fail
 go_ret
 exact ⟨by (rw [HR2.out]) <;> rfl, hz4⟩
end
end Go.Proofs.YtjmfknfponjgkaaGreatDoor
