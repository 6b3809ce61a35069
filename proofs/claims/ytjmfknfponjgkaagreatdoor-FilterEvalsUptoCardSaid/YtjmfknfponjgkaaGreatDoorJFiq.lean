/- The walks of the program's pieces and value of a filter. Conditions: as stated. -/
import Derived.Test.YtjmfknfponjgkaaGreatDoorJFiS
import Derived.Test.YtjmfknfponjgkaaGreatDoorJFif
import Derived.Test.YtjmfknfponjgkaaGreatDoorJDnh
import Derived.Test.YtjmfknfponjgkaaGreatDoorJRuk
set_option maxRecDepth 100000
set_option maxHeartbeats 8000000
namespace Go.Proofs.YtjmfknfponjgkaaGreatDoor
namespace FiS
theorem lowIf_len (sy : Int) (p : List UInt8) : (lowIf sy p).length = p.length := by
 unfold lowIf
 split
 · exact RuS.lower_length p
 · rfl
theorem pieces_nopre {f l s : List UInt8} {any : List (List UInt8)} (h : Lib.hasPrefix s f = false) : piecesS f l any s = false := by
 unfold piecesS betweenS
 rw [h, if_neg (by simp)]
theorem pieces_nosuf {f l s : List UInt8} {any : List (List UInt8)} (h : Lib.hasPrefix s f = true) (h2 : Lib.hasSuffix (s.drop f.length) l = false) : piecesS f l any s = false := by
 unfold piecesS betweenS
 rw [h, if_pos rfl, h2, if_neg (by simp)]
theorem pieces_cut {f l s : List UInt8} {any : List (List UInt8)} (h : Lib.hasPrefix s f = true) (h2 : Lib.hasSuffix (s.drop f.length) l = true) : piecesS f l any s = cutsS any ((s.drop f.length).take ((s.drop f.length).length - l.length)) := by
 unfold piecesS betweenS
 rw [h, if_pos rfl, h2, if_pos rfl]
theorem value_len (a x : List UInt8) : (DnS.valueS a x).1.length <= 1000 := by
 unfold DnS.valueS
 split
 · split
   · simp
   · split
     · exact DnS.norm_len x
     · simp
 · exact Nat.le_trans (RuS.normal_len a x) (by decide)
end FiS
open Go.RowKit
open FiS (Fi)
attribute [local go_sem ↓] Go.wp_at_zero Go.wp_at_succ
theorem flplain_c (s : ByteArray) (w : World) : Calls Tryz.prog 79 #[.string s] w fun e w' => e = .returned (.string s) /\ w = w' := by
 go_enter Tryz.func79, Tryz.ntmps79
 go_wp2_with fail
 go_ret
 exact ⟨rfl, rfl⟩
theorem flpieceslow_c (n : Nat) (x : Fi) (v : Value) (s : List UInt8) (sy : Int) (hsy : sy = 1) (w : World) (h : FiIn n w v x) (hwd : FiS.wdF 20000 x) (hs : s.length <= 20000) (hE : Env w) : Calls Tryz.prog 78 #[v, .string ⟨s.toArray⟩, .func (.func 75) #[] #[]] w (BoolR (FiS.piecesS (FiS.lowIf sy x.first) (FiS.lowIf sy x.last) (x.any.map (FiS.lowIf sy)) s) w) := by
 have hG : ∀ (p : List UInt8) (W : World), p.length <= 20000 -> Calls Tryz.prog 75 #[.string ⟨p.toArray⟩] W fun e w' => e = .returned (.string ⟨(FiS.lowIf sy p).toArray⟩) /\ Below W.heap.size W w' := fun p W hp => by
  have h := lower_c ⟨p.toArray⟩ (by rw [bsize]; omega) W
  unfold LowRet at h
  have e : FiS.lowIf sy p = RuS.lower p := by unfold FiS.lowIf; rw [if_pos hsy]
  rw [e]
  exact h
 have HG := hZ9 hG
 have HLL : Hid (∀ p, (FiS.lowIf sy p).length = p.length) := hZ9 (fun p => FiS.lowIf_len sy p)
 clear hG
 obtain ⟨kd, at0, vl, fs, ls, an, ps⟩ := x
 obtain ⟨a5, c5, a6, c6, hv, hss, hc6, hps⟩ := FiV.parts h
 have hv : v = .agg #[.int .i64 kd, .string ⟨at0.toArray⟩, .string ⟨vl.toArray⟩, .string ⟨fs.toArray⟩, .string ⟨ls.toArray⟩, .slice a5 an.length c5, .slice a6 ps.length c6] := hv
 subst hv
 have hss : StrsIn w (.slice a5 an.length c5) an := hss
 have hc6 : ps.length <= c6 := hc6
 have hps : FisP n (fun _ => True) w (.slice a6 ps.length c6) ps := hps
 rw [FiS.wdF] at hwd
 obtain ⟨⟨hat0, hvl, hfs, hls⟩, hany, hanys, _, _⟩ := hwd
 have HANY := hZ9 (fun j (hj : j < an.length) => hanys an[j] (List.getElem_mem hj))
 clear hanys
 obtain ⟨AL, hAL⟩ : ∃ m, an.length = m := ⟨_, rfl⟩
 obtain ⟨PL, hPL⟩ : ∃ m, ps.length = m := ⟨_, rfl⟩
 have HAL := hZ9 hAL
 have HPL := hZ9 hPL
 rw [hAL] at hss
 rw [hPL] at hc6 hps
 try rw [hAL]
 try rw [hPL]
 have hg0 := grow1 w (.cells #[.int .i64 kd, .string ⟨at0.toArray⟩, .string ⟨vl.toArray⟩, .string ⟨fs.toArray⟩, .string ⟨ls.toArray⟩, .slice a5 AL c5, .slice a6 PL c6] 33)
 have hw0 := Whole.made w 33 #[.int .i64 kd, .string ⟨at0.toArray⟩, .string ⟨vl.toArray⟩, .string ⟨fs.toArray⟩, .string ⟨ls.toArray⟩, .slice a5 AL c5, .slice a6 PL c6]
 obtain ⟨q0, q1, q2, q3, q4, q5, q6⟩ := hw0.seven
 rw [hAL] at hany
 obtain ⟨a', c', e, hcc, hsc⟩ := SliceP.at (hss.strsP (fun _ => True) (fun _ _ => trivial))
 injection e with e1 e2 e3
 rw [<- e1] at hsc
 have HSC := hZ9 hsc
 have HDR := hZ9 (fun j (hj : j < an.length) => List.drop_eq_getElem_cons hj)
 have HALA : Hid (an.drop AL = []) := hZ9 (by rw [<- hAL]; exact List.drop_length)
 show Calls _ _ _ _ (BoolR (FiS.piecesS (FiS.lowIf sy fs) (FiS.lowIf sy ls) (an.map (FiS.lowIf sy)) s) w)
 clear hsc hss e1 e2 e3 hcc h hps hAL hPL HPL hc6
 have hgf := fun W => HG.out fs W hfs
 have hgl := fun W => HG.out ls W hls
 have hlf := HLL.out fs
 have hll := HLL.out ls
 generalize FiS.lowIf sy fs = F1 at *
 generalize FiS.lowIf sy ls = L1 at *
 have HNP := hZ9 (fun h => @FiS.pieces_nopre F1 L1 s (an.map (FiS.lowIf sy)) h)
 have HNS := hZ9 (fun h h2 => @FiS.pieces_nosuf F1 L1 s (an.map (FiS.lowIf sy)) h h2)
 have HPC := hZ9 (fun h h2 => @FiS.pieces_cut F1 L1 s (an.map (FiS.lowIf sy)) h h2)
 obtain ⟨R, hR⟩ : ∃ r, FiS.piecesS F1 L1 (an.map (FiS.lowIf sy)) s = r := ⟨_, rfl⟩
 rw [hR] at HNP HNS HPC ⊢
 clear hR
 unfold BoolR
 have hcp : ∀ W, Calls Tryz.prog 72 #[.string ⟨s.toArray⟩, .string ⟨F1.toArray⟩] W fun e w' => e = .returned (.tuple #[.string ⟨(Lib.trimPrefix s F1).toArray⟩, .bool (Lib.hasPrefix s F1)]) /\ w' = W := fun W => Tryz.strings_CutPrefix ⟨s.toArray⟩ ⟨F1.toArray⟩ W
 have HTP : Hid (Lib.hasPrefix s F1 = true -> Lib.trimPrefix s F1 = s.drop F1.length) := hZ9 (fun h => by unfold Lib.trimPrefix; rw [if_pos h])
 have hsl : (s.drop F1.length).length <= 20000 := by rw [List.length_drop]; omega
 cases hp : Lib.hasPrefix s F1 with
 | false =>
  have HRR : Hid (R = false) := hZ9 (HNP.out hp)
  rw [hp] at hcp
  clear hp HNP HNS HPC HTP HG HLL HANY HSC HDR HALA hgl
  go_enter Tryz.func78, Tryz.ntmps78
  go_wp2_with fail
  refine (hgf _).mono ?_; rintro e w2 ⟨rfl, hb2⟩
  have hz2 := hg0.trans (hb2.mono hg0.size)
  clear hgf q0 q1 q2 q3 q4 q5 q6
  go_wp2_with fail
  refine (hcp _).mono ?_; rintro e w3 ⟨rfl, rfl⟩
  go_wp2_with fail
  go_ret
  exact ⟨by (rw [HRR.out]) <;> rfl, hz2⟩
 | true =>
  rw [hp, HTP.out hp] at hcp
  have HNS2 := hZ9 (fun h2 => HNS.out hp h2)
  have HPC2 := hZ9 (fun h2 => HPC.out hp h2)
  clear hp HNP HNS HPC HTP
  generalize s.drop F1.length = s1 at *
  have hcs : ∀ W, Calls Tryz.prog 101 #[.string ⟨s1.toArray⟩, .string ⟨L1.toArray⟩] W fun e w' => e = .returned (.tuple #[.string ⟨(Lib.trimSuffix s1 L1).toArray⟩, .bool (Lib.hasSuffix s1 L1)]) /\ w' = W := fun W => Tryz.strings_CutSuffix ⟨s1.toArray⟩ ⟨L1.toArray⟩ W (by rw [bsize]; omega)
  have HTP : Hid (Lib.hasSuffix s1 L1 = true -> Lib.trimSuffix s1 L1 = s1.take (s1.length - L1.length)) := hZ9 (fun h => by unfold Lib.trimSuffix; rw [if_pos h])
  have hsl2 : (s1.take (s1.length - L1.length)).length <= 20000 := by rw [List.length_take]; omega
  cases hp : Lib.hasSuffix s1 L1 with
  | false =>
   have HRR : Hid (R = false) := hZ9 (HNS2.out hp)
   rw [hp] at hcs
   clear hp HNS2 HPC2 HTP HG HLL HANY HSC HDR HALA
   go_enter Tryz.func78, Tryz.ntmps78
   go_wp2_with fail
   refine (hgf _).mono ?_; rintro e w2 ⟨rfl, hb2⟩
   have hz2 := hg0.trans (hb2.mono hg0.size)
   have hw2 := hw0.call hb2
   clear hgf q0 q1 q2 q3 q4 q5 q6
   obtain ⟨q0, q1, q2, q3, q4, q5, q6⟩ := hw2.seven
   go_wp2_with fail
   refine (hcp _).mono ?_; rintro e w3 ⟨rfl, rfl⟩
   go_wp2_with fail
   refine (hgl _).mono ?_; rintro e w4 ⟨rfl, hb4⟩
   have hz4 := hz2.trans (hb4.mono hz2.size)
   clear hgl q0 q1 q2 q3 q4 q5 q6
   go_wp2_with fail
   refine (hcs _).mono ?_; rintro e w5 ⟨rfl, rfl⟩
   go_wp2_with fail
   go_ret
   exact ⟨by (rw [HRR.out]) <;> rfl, hz4⟩
  | true =>
   rw [hp, HTP.out hp] at hcs
   have HRC := hZ9 (HPC2.out hp)
   clear hp HNS2 HPC2 HTP
   generalize s1.take (s1.length - L1.length) = s2 at *
   go_enter Tryz.func78, Tryz.ntmps78
   go_wp2_with fail
   refine (hgf _).mono ?_; rintro e w2 ⟨rfl, hb2⟩
   have hz2 := hg0.trans (hb2.mono hg0.size)
   have hw2 := hw0.call hb2
   clear hgf q0 q1 q2 q3 q4 q5 q6
   obtain ⟨q0, q1, q2, q3, q4, q5, q6⟩ := hw2.seven
   go_wp2_with fail
   refine (hcp _).mono ?_; rintro e w3 ⟨rfl, rfl⟩
   go_wp2_with fail
   refine (hgl _).mono ?_; rintro e w4 ⟨rfl, hb4⟩
   have hz4 := hz2.trans (hb4.mono hz2.size)
   have hw4 := hw2.call hb4
   clear hgl q0 q1 q2 q3 q4 q5 q6 hw2 hb2 hb4 hz2
   obtain ⟨q0, q1, q2, q3, q4, q5, q6⟩ := hw4.seven
   go_wp2_with fail
   refine (hcs _).mono ?_; rintro e w5 ⟨rfl, rfl⟩
   clear hcp hcs
   go_wp2_with fail
   clear q0 q1 q2 q3 q4 q5 q6 hw4
   go_loopw [1, 35] (fun sv i wr => ∃ (j : Nat) (q : List UInt8), j <= AL /\ i = .int .i64 j /\ sv = .string ⟨q.toArray⟩ /\ q.length <= 20000 /\ Hid (R = FiS.cutsS ((an.drop j).map (FiS.lowIf sy)) q) /\ Below w.heap.size w wr) (fun _ i _ => AL - (intOf i).toNat)
   case atStart => exact ⟨0, s2, Nat.zero_le _, rfl, rfl, hsl2, hZ9 (by rw [HRC.out, List.drop_zero]), hz4⟩
   case round =>
    obtain ⟨j, q, hj, rfl, rfl, hql, HQ, hb⟩ := hrel
    clear hz4 HRC
    by_cases hlt : j < AL
    · have hlt2 : j < an.length := by rw [HAL.out]; exact hlt
      have HDj := hZ9 (HDR.out j hlt2)
      have hpl2 := HANY.out j hlt2
      obtain ⟨g, o, hae, hg, _, hra⟩ := HSC.out j hlt2
      have hcj : wr.cell? ⟨g, o + j, none⟩ = some (strV an[j]) := by
       have : w.cell? ⟨g, o + j * 1, none⟩ = some (strV an[j]) := hra
       rw [Nat.mul_one] at this
       exact keepC this hb
      clear hra HSC HDR HANY HALA
      subst hae
      generalize an[j] = p at *
      unfold strV at hcj
      have hgp := HG.out p wr hpl2
      have hplen := HLL.out p
      have HQ2 : Hid (R = if 0 <= Lib.index q (FiS.lowIf sy p) then FiS.cutsS ((an.drop (j + 1)).map (FiS.lowIf sy)) (q.drop ((Lib.index q (FiS.lowIf sy p)).toNat + (FiS.lowIf sy p).length)) else false) := hZ9 (by rw [HQ.out, HDj.out, List.map_cons, FiS.cutsS])
      clear HQ HDj
      generalize FiS.lowIf sy p = P1 at *
      have hEr := hE.below hb
      obtain ⟨m, hm⟩ := hEr.maxLen
      have hl0 : (0 : Int) <= (j : Int) := by omega
      have hl1 : (j : Int) < (AL : Int) := by omega
      have HCT : Hid (∀ W, Below wr.heap.size wr W -> Calls Tryz.prog 50 #[.string ⟨q.toArray⟩, .string ⟨P1.toArray⟩] W fun e w' => e = .returned (.tuple #[.string ⟨(Lib.cut q P1).1.toArray⟩, .string ⟨(Lib.cut q P1).2.1.toArray⟩, .bool (Lib.cut q P1).2.2]) /\ Below W.heap.size W w') := hZ9 (fun W hbW => by
       obtain ⟨m, hm⟩ := (hEr.below hbW).maxLen
       refine (Tryz.strings_Cut ⟨q.toArray⟩ ⟨P1.toArray⟩ m W (by rw [bsize]; omega) hm).mono ?_
       rintro e w' ⟨rfl, k, rfl⟩
       exact ⟨rfl, below_drewN W k⟩)
      have hqd : ∀ k, (q.drop k).length <= 20000 := fun k => by rw [List.length_drop]; omega
      clear hm
      by_cases hix : 0 <= Lib.index q P1
      · have HRN : Hid (R = FiS.cutsS ((an.drop (j + 1)).map (FiS.lowIf sy)) (q.drop ((Lib.index q P1).toNat + P1.length))) := hZ9 (by rw [HQ2.out, if_pos hix])
        have hct : Lib.cut q P1 = (q.take (Lib.index q P1).toNat, q.drop ((Lib.index q P1).toNat + P1.length), true) := by unfold Lib.cut; rw [if_pos hix]
        rw [hct] at HCT
        have hq3 := hqd ((Lib.index q P1).toNat + P1.length)
        clear hct hqd HQ2 hix
        generalize q.drop ((Lib.index q P1).toNat + P1.length) = q2 at *
        generalize q.take (Lib.index q P1).toNat = q1 at *
        go_wp2_with fail
        refine hgp.mono ?_; rintro e w6 ⟨rfl, hb6⟩
        have hct6 := HCT.out w6 hb6
        have hz6 := hb.trans (hb6.mono hb.size)
        clear hgp HCT
        go_wp2_with fail
        refine hct6.mono ?_; rintro e w7 ⟨rfl, hb7⟩
        have hz7 := hz6.trans (hb7.mono hz6.size)
        clear hct6
        go_wp2_with fail
        go_roundw
        case rel => exact ⟨j + 1, q2, by omega, by go_num, rfl, hq3, HRN, hz7⟩
        case measure => simp [intOf]; omega
      · have HRN : Hid (R = false) := hZ9 (by rw [HQ2.out, if_neg hix])
        have hct : Lib.cut q P1 = (q, [], false) := by unfold Lib.cut; rw [if_neg hix]
        rw [hct] at HCT
        clear hct hqd HQ2 hix
        go_wp2_with fail
        refine hgp.mono ?_; rintro e w6 ⟨rfl, hb6⟩
        have hct6 := HCT.out w6 hb6
        have hz6 := hb.trans (hb6.mono hb.size)
        clear hgp HCT
        go_wp2_with fail
        refine hct6.mono ?_; rintro e w7 ⟨rfl, hb7⟩
        have hz7 := hz6.trans (hb7.mono hz6.size)
        clear hct6
        go_wp2_with fail
        go_ret
        exact ⟨by (rw [HRN.out]) <;> rfl, hz7⟩
    · have hjl : j = AL := by omega
      subst hjl
      have HRN : Hid (R = true) := hZ9 (by rw [HQ.out, HALA.out]; rfl)
      clear HSC HDR HANY HALA HQ HG HLL
      go_wp2_with fail
      go_ret
      exact ⟨by (rw [HRN.out]) <;> rfl, hb⟩
theorem flpiecesid_c (n : Nat) (x : Fi) (v : Value) (s : List UInt8) (sy : Int) (hsy : sy ≠ 1) (w : World) (h : FiIn n w v x) (hwd : FiS.wdF 20000 x) (hs : s.length <= 20000) (hE : Env w) : Calls Tryz.prog 78 #[v, .string ⟨s.toArray⟩, .func (.func 79) #[] #[]] w (BoolR (FiS.piecesS (FiS.lowIf sy x.first) (FiS.lowIf sy x.last) (x.any.map (FiS.lowIf sy)) s) w) := by
 have hG : ∀ (p : List UInt8) (W : World), p.length <= 20000 -> Calls Tryz.prog 79 #[.string ⟨p.toArray⟩] W fun e w' => e = .returned (.string ⟨(FiS.lowIf sy p).toArray⟩) /\ Below W.heap.size W w' := fun p W hp => by
  have e : FiS.lowIf sy p = p := by unfold FiS.lowIf; rw [if_neg hsy]
  rw [e]
  refine (flplain_c ⟨p.toArray⟩ W).mono ?_
  rintro e w' ⟨rfl, rfl⟩
  exact ⟨rfl, Below.refl _ _⟩
 have HG := hZ9 hG
 have HLL : Hid (∀ p, (FiS.lowIf sy p).length = p.length) := hZ9 (fun p => FiS.lowIf_len sy p)
 clear hG
 obtain ⟨kd, at0, vl, fs, ls, an, ps⟩ := x
 obtain ⟨a5, c5, a6, c6, hv, hss, hc6, hps⟩ := FiV.parts h
 have hv : v = .agg #[.int .i64 kd, .string ⟨at0.toArray⟩, .string ⟨vl.toArray⟩, .string ⟨fs.toArray⟩, .string ⟨ls.toArray⟩, .slice a5 an.length c5, .slice a6 ps.length c6] := hv
 subst hv
 have hss : StrsIn w (.slice a5 an.length c5) an := hss
 have hc6 : ps.length <= c6 := hc6
 have hps : FisP n (fun _ => True) w (.slice a6 ps.length c6) ps := hps
 rw [FiS.wdF] at hwd
 obtain ⟨⟨hat0, hvl, hfs, hls⟩, hany, hanys, _, _⟩ := hwd
 have HANY := hZ9 (fun j (hj : j < an.length) => hanys an[j] (List.getElem_mem hj))
 clear hanys
 obtain ⟨AL, hAL⟩ : ∃ m, an.length = m := ⟨_, rfl⟩
 obtain ⟨PL, hPL⟩ : ∃ m, ps.length = m := ⟨_, rfl⟩
 have HAL := hZ9 hAL
 have HPL := hZ9 hPL
 rw [hAL] at hss
 rw [hPL] at hc6 hps
 try rw [hAL]
 try rw [hPL]
 have hg0 := grow1 w (.cells #[.int .i64 kd, .string ⟨at0.toArray⟩, .string ⟨vl.toArray⟩, .string ⟨fs.toArray⟩, .string ⟨ls.toArray⟩, .slice a5 AL c5, .slice a6 PL c6] 33)
 have hw0 := Whole.made w 33 #[.int .i64 kd, .string ⟨at0.toArray⟩, .string ⟨vl.toArray⟩, .string ⟨fs.toArray⟩, .string ⟨ls.toArray⟩, .slice a5 AL c5, .slice a6 PL c6]
 obtain ⟨q0, q1, q2, q3, q4, q5, q6⟩ := hw0.seven
 rw [hAL] at hany
 obtain ⟨a', c', e, hcc, hsc⟩ := SliceP.at (hss.strsP (fun _ => True) (fun _ _ => trivial))
 injection e with e1 e2 e3
 rw [<- e1] at hsc
 have HSC := hZ9 hsc
 have HDR := hZ9 (fun j (hj : j < an.length) => List.drop_eq_getElem_cons hj)
 have HALA : Hid (an.drop AL = []) := hZ9 (by rw [<- hAL]; exact List.drop_length)
 show Calls _ _ _ _ (BoolR (FiS.piecesS (FiS.lowIf sy fs) (FiS.lowIf sy ls) (an.map (FiS.lowIf sy)) s) w)
 clear hsc hss e1 e2 e3 hcc h hps hAL hPL HPL hc6
 have hgf := fun W => HG.out fs W hfs
 have hgl := fun W => HG.out ls W hls
 have hlf := HLL.out fs
 have hll := HLL.out ls
 generalize FiS.lowIf sy fs = F1 at *
 generalize FiS.lowIf sy ls = L1 at *
 have HNP := hZ9 (fun h => @FiS.pieces_nopre F1 L1 s (an.map (FiS.lowIf sy)) h)
 have HNS := hZ9 (fun h h2 => @FiS.pieces_nosuf F1 L1 s (an.map (FiS.lowIf sy)) h h2)
 have HPC := hZ9 (fun h h2 => @FiS.pieces_cut F1 L1 s (an.map (FiS.lowIf sy)) h h2)
 obtain ⟨R, hR⟩ : ∃ r, FiS.piecesS F1 L1 (an.map (FiS.lowIf sy)) s = r := ⟨_, rfl⟩
 rw [hR] at HNP HNS HPC ⊢
 clear hR
 unfold BoolR
 have hcp : ∀ W, Calls Tryz.prog 72 #[.string ⟨s.toArray⟩, .string ⟨F1.toArray⟩] W fun e w' => e = .returned (.tuple #[.string ⟨(Lib.trimPrefix s F1).toArray⟩, .bool (Lib.hasPrefix s F1)]) /\ w' = W := fun W => Tryz.strings_CutPrefix ⟨s.toArray⟩ ⟨F1.toArray⟩ W
 have HTP : Hid (Lib.hasPrefix s F1 = true -> Lib.trimPrefix s F1 = s.drop F1.length) := hZ9 (fun h => by unfold Lib.trimPrefix; rw [if_pos h])
 have hsl : (s.drop F1.length).length <= 20000 := by rw [List.length_drop]; omega
 cases hp : Lib.hasPrefix s F1 with
 | false =>
  have HRR : Hid (R = false) := hZ9 (HNP.out hp)
  rw [hp] at hcp
  clear hp HNP HNS HPC HTP HG HLL HANY HSC HDR HALA hgl
  go_enter Tryz.func78, Tryz.ntmps78
  go_wp2_with fail
  refine (hgf _).mono ?_; rintro e w2 ⟨rfl, hb2⟩
  have hz2 := hg0.trans (hb2.mono hg0.size)
  clear hgf q0 q1 q2 q3 q4 q5 q6
  go_wp2_with fail
  refine (hcp _).mono ?_; rintro e w3 ⟨rfl, rfl⟩
  go_wp2_with fail
  go_ret
  exact ⟨by (rw [HRR.out]) <;> rfl, hz2⟩
 | true =>
  rw [hp, HTP.out hp] at hcp
  have HNS2 := hZ9 (fun h2 => HNS.out hp h2)
  have HPC2 := hZ9 (fun h2 => HPC.out hp h2)
  clear hp HNP HNS HPC HTP
  generalize s.drop F1.length = s1 at *
  have hcs : ∀ W, Calls Tryz.prog 101 #[.string ⟨s1.toArray⟩, .string ⟨L1.toArray⟩] W fun e w' => e = .returned (.tuple #[.string ⟨(Lib.trimSuffix s1 L1).toArray⟩, .bool (Lib.hasSuffix s1 L1)]) /\ w' = W := fun W => Tryz.strings_CutSuffix ⟨s1.toArray⟩ ⟨L1.toArray⟩ W (by rw [bsize]; omega)
  have HTP : Hid (Lib.hasSuffix s1 L1 = true -> Lib.trimSuffix s1 L1 = s1.take (s1.length - L1.length)) := hZ9 (fun h => by unfold Lib.trimSuffix; rw [if_pos h])
  have hsl2 : (s1.take (s1.length - L1.length)).length <= 20000 := by rw [List.length_take]; omega
  cases hp : Lib.hasSuffix s1 L1 with
  | false =>
   have HRR : Hid (R = false) := hZ9 (HNS2.out hp)
   rw [hp] at hcs
   clear hp HNS2 HPC2 HTP HG HLL HANY HSC HDR HALA
   go_enter Tryz.func78, Tryz.ntmps78
   go_wp2_with fail
   refine (hgf _).mono ?_; rintro e w2 ⟨rfl, hb2⟩
   have hz2 := hg0.trans (hb2.mono hg0.size)
   have hw2 := hw0.call hb2
   clear hgf q0 q1 q2 q3 q4 q5 q6
   obtain ⟨q0, q1, q2, q3, q4, q5, q6⟩ := hw2.seven
   go_wp2_with fail
   refine (hcp _).mono ?_; rintro e w3 ⟨rfl, rfl⟩
   go_wp2_with fail
   refine (hgl _).mono ?_; rintro e w4 ⟨rfl, hb4⟩
   have hz4 := hz2.trans (hb4.mono hz2.size)
   clear hgl q0 q1 q2 q3 q4 q5 q6
   go_wp2_with fail
   refine (hcs _).mono ?_; rintro e w5 ⟨rfl, rfl⟩
   go_wp2_with fail
   go_ret
   exact ⟨by (rw [HRR.out]) <;> rfl, hz4⟩
  | true =>
   rw [hp, HTP.out hp] at hcs
   have HRC := hZ9 (HPC2.out hp)
   clear hp HNS2 HPC2 HTP
   generalize s1.take (s1.length - L1.length) = s2 at *
   go_enter Tryz.func78, Tryz.ntmps78
   go_wp2_with fail
   refine (hgf _).mono ?_; rintro e w2 ⟨rfl, hb2⟩
   have hz2 := hg0.trans (hb2.mono hg0.size)
   have hw2 := hw0.call hb2
   clear hgf q0 q1 q2 q3 q4 q5 q6
   obtain ⟨q0, q1, q2, q3, q4, q5, q6⟩ := hw2.seven
   go_wp2_with fail
   refine (hcp _).mono ?_; rintro e w3 ⟨rfl, rfl⟩
   go_wp2_with fail
   refine (hgl _).mono ?_; rintro e w4 ⟨rfl, hb4⟩
   have hz4 := hz2.trans (hb4.mono hz2.size)
   have hw4 := hw2.call hb4
   clear hgl q0 q1 q2 q3 q4 q5 q6 hw2 hb2 hb4 hz2
   obtain ⟨q0, q1, q2, q3, q4, q5, q6⟩ := hw4.seven
   go_wp2_with fail
   refine (hcs _).mono ?_; rintro e w5 ⟨rfl, rfl⟩
   clear hcp hcs
   go_wp2_with fail
   clear q0 q1 q2 q3 q4 q5 q6 hw4
   go_loopw [1, 35] (fun sv i wr => ∃ (j : Nat) (q : List UInt8), j <= AL /\ i = .int .i64 j /\ sv = .string ⟨q.toArray⟩ /\ q.length <= 20000 /\ Hid (R = FiS.cutsS ((an.drop j).map (FiS.lowIf sy)) q) /\ Below w.heap.size w wr) (fun _ i _ => AL - (intOf i).toNat)
   case atStart => exact ⟨0, s2, Nat.zero_le _, rfl, rfl, hsl2, hZ9 (by rw [HRC.out, List.drop_zero]), hz4⟩
   case round =>
    obtain ⟨j, q, hj, rfl, rfl, hql, HQ, hb⟩ := hrel
    clear hz4 HRC
    by_cases hlt : j < AL
    · have hlt2 : j < an.length := by rw [HAL.out]; exact hlt
      have HDj := hZ9 (HDR.out j hlt2)
      have hpl2 := HANY.out j hlt2
      obtain ⟨g, o, hae, hg, _, hra⟩ := HSC.out j hlt2
      have hcj : wr.cell? ⟨g, o + j, none⟩ = some (strV an[j]) := by
       have : w.cell? ⟨g, o + j * 1, none⟩ = some (strV an[j]) := hra
       rw [Nat.mul_one] at this
       exact keepC this hb
      clear hra HSC HDR HANY HALA
      subst hae
      generalize an[j] = p at *
      unfold strV at hcj
      have hgp := HG.out p wr hpl2
      have hplen := HLL.out p
      have HQ2 : Hid (R = if 0 <= Lib.index q (FiS.lowIf sy p) then FiS.cutsS ((an.drop (j + 1)).map (FiS.lowIf sy)) (q.drop ((Lib.index q (FiS.lowIf sy p)).toNat + (FiS.lowIf sy p).length)) else false) := hZ9 (by rw [HQ.out, HDj.out, List.map_cons, FiS.cutsS])
      clear HQ HDj
      generalize FiS.lowIf sy p = P1 at *
      have hEr := hE.below hb
      obtain ⟨m, hm⟩ := hEr.maxLen
      have hl0 : (0 : Int) <= (j : Int) := by omega
      have hl1 : (j : Int) < (AL : Int) := by omega
      have HCT : Hid (∀ W, Below wr.heap.size wr W -> Calls Tryz.prog 50 #[.string ⟨q.toArray⟩, .string ⟨P1.toArray⟩] W fun e w' => e = .returned (.tuple #[.string ⟨(Lib.cut q P1).1.toArray⟩, .string ⟨(Lib.cut q P1).2.1.toArray⟩, .bool (Lib.cut q P1).2.2]) /\ Below W.heap.size W w') := hZ9 (fun W hbW => by
       obtain ⟨m, hm⟩ := (hEr.below hbW).maxLen
       refine (Tryz.strings_Cut ⟨q.toArray⟩ ⟨P1.toArray⟩ m W (by rw [bsize]; omega) hm).mono ?_
       rintro e w' ⟨rfl, k, rfl⟩
       exact ⟨rfl, below_drewN W k⟩)
      have hqd : ∀ k, (q.drop k).length <= 20000 := fun k => by rw [List.length_drop]; omega
      clear hm
      by_cases hix : 0 <= Lib.index q P1
      · have HRN : Hid (R = FiS.cutsS ((an.drop (j + 1)).map (FiS.lowIf sy)) (q.drop ((Lib.index q P1).toNat + P1.length))) := hZ9 (by rw [HQ2.out, if_pos hix])
        have hct : Lib.cut q P1 = (q.take (Lib.index q P1).toNat, q.drop ((Lib.index q P1).toNat + P1.length), true) := by unfold Lib.cut; rw [if_pos hix]
        rw [hct] at HCT
        have hq3 := hqd ((Lib.index q P1).toNat + P1.length)
        clear hct hqd HQ2 hix
        generalize q.drop ((Lib.index q P1).toNat + P1.length) = q2 at *
        generalize q.take (Lib.index q P1).toNat = q1 at *
        go_wp2_with fail
        refine hgp.mono ?_; rintro e w6 ⟨rfl, hb6⟩
        have hct6 := HCT.out w6 hb6
        have hz6 := hb.trans (hb6.mono hb.size)
        clear hgp HCT
        go_wp2_with fail
        refine hct6.mono ?_; rintro e w7 ⟨rfl, hb7⟩
        have hz7 := hz6.trans (hb7.mono hz6.size)
        clear hct6
        go_wp2_with fail
        go_roundw
        case rel => exact ⟨j + 1, q2, by omega, by go_num, rfl, hq3, HRN, hz7⟩
        case measure => simp [intOf]; omega
      · have HRN : Hid (R = false) := hZ9 (by rw [HQ2.out, if_neg hix])
        have hct : Lib.cut q P1 = (q, [], false) := by unfold Lib.cut; rw [if_neg hix]
        rw [hct] at HCT
        clear hct hqd HQ2 hix
        go_wp2_with fail
        refine hgp.mono ?_; rintro e w6 ⟨rfl, hb6⟩
        have hct6 := HCT.out w6 hb6
        have hz6 := hb.trans (hb6.mono hb.size)
        clear hgp HCT
        go_wp2_with fail
        refine hct6.mono ?_; rintro e w7 ⟨rfl, hb7⟩
        have hz7 := hz6.trans (hb7.mono hz6.size)
        clear hct6
        go_wp2_with fail
        go_ret
        exact ⟨by (rw [HRN.out]) <;> rfl, hz7⟩
    · have hjl : j = AL := by omega
      subst hjl
      have HRN : Hid (R = true) := hZ9 (by rw [HQ.out, HALA.out]; rfl)
      clear HSC HDR HANY HALA HQ HG HLL
      go_wp2_with fail
      go_ret
      exact ⟨by (rw [HRN.out]) <;> rfl, hb⟩
theorem flvalue_c (n : Nat) (x : Fi) (v : Value) (t : List UInt8) (sy : Int) (hsy : (RuS.typeOf x.attr).2 = sy) (w : World) (h : FiIn n w v x) (hwd : FiS.wdF 20000 x) (ht : t.length <= 1000000) (hE : Env w) : Calls Tryz.prog 54 #[v, .string ⟨t.toArray⟩, .int .i64 sy] w (BoolR (FiS.valueE x.kind x.attr x.value x.first x.last x.any t) w) := by
 have hwd0 := hwd
 have hA : x.attr.length <= 20000 /\ x.value.length <= 20000 := by
  cases x
  rw [FiS.wdF] at hwd
  exact ⟨hwd.1.1, hwd.1.2.1⟩
 have HVE : Hid (FiS.valueE x.kind x.attr x.value x.first x.last x.any t = if (DnS.valueS x.attr t).2 = 0 then
  (if x.kind = 4 then FiS.piecesS (FiS.lowIf sy x.first) (FiS.lowIf sy x.last) (x.any.map (FiS.lowIf sy)) (DnS.valueS x.attr t).1
  else if x.kind = 3 \/ sy = 5 then (DnS.valueS x.attr t).1 == (DnS.valueS x.attr x.value).1
  else if x.kind = 8 then nearB x.attr t x.value
  else decide (x.kind = 5 /\ 0 <= cmpB x.attr t x.value \/ x.kind = 6 /\ cmpB x.attr t x.value <= 0)) else false) := hZ9 (by unfold FiS.valueE; rw [hsy])
 have HV1 : Hid (∀ s W, sy = 1 -> FiIn n W v x -> s.length <= 20000 -> Env W -> Calls Tryz.prog 78 #[v, .string ⟨s.toArray⟩, .func (.func 75) #[] #[]] W (BoolR (FiS.piecesS (FiS.lowIf sy x.first) (FiS.lowIf sy x.last) (x.any.map (FiS.lowIf sy)) s) W)) := hZ9 (fun s W hs h hl hE => flpieceslow_c n x v s sy hs W h hwd hl hE)
 have HV2 : Hid (∀ s W, sy ≠ 1 -> FiIn n W v x -> s.length <= 20000 -> Env W -> Calls Tryz.prog 78 #[v, .string ⟨s.toArray⟩, .func (.func 79) #[] #[]] W (BoolR (FiS.piecesS (FiS.lowIf sy x.first) (FiS.lowIf sy x.last) (x.any.map (FiS.lowIf sy)) s) W)) := hZ9 (fun s W hs h hl hE => flpiecesid_c n x v s sy hs W h hwd hl hE)
 clear hwd0 hsy hwd
 have HH := hZ9 h
 obtain ⟨a5, c5, a6, c6, hv, hss, hc6, hps⟩ := FiV.parts h
 obtain ⟨PC, hPC⟩ : ∃ f : List UInt8 -> Bool, (fun s => FiS.piecesS (FiS.lowIf sy x.first) (FiS.lowIf sy x.last) (x.any.map (FiS.lowIf sy)) s) = f := ⟨_, rfl⟩
 have hPC2 : ∀ s, FiS.piecesS (FiS.lowIf sy x.first) (FiS.lowIf sy x.last) (x.any.map (FiS.lowIf sy)) s = PC s := fun s => congrFun hPC s
 simp only [hPC2] at HVE HV1 HV2
 clear hPC hPC2 hss hps
 obtain ⟨R, hR⟩ : ∃ r, FiS.valueE x.kind x.attr x.value x.first x.last x.any t = r := ⟨_, rfl⟩
 rw [hR] at HVE ⊢
 clear hR h
 generalize x.any.length = AL at *
 generalize x.parts.length = PL at *
 generalize x.kind = kd at *
 generalize x.attr = at0 at *
 generalize x.value = vl at *
 generalize x.first = fs at *
 generalize x.last = ls at *
 subst hv
 unfold BoolR at *
 have hg0 := grow1 w (.cells #[.int .i64 kd, .string ⟨at0.toArray⟩, .string ⟨vl.toArray⟩, .string ⟨fs.toArray⟩, .string ⟨ls.toArray⟩, .slice a5 AL c5, .slice a6 PL c6] 33)
 have hw0 := Whole.made w 33 #[.int .i64 kd, .string ⟨at0.toArray⟩, .string ⟨vl.toArray⟩, .string ⟨fs.toArray⟩, .string ⟨ls.toArray⟩, .slice a5 AL c5, .slice a6 PL c6]
 obtain ⟨q0, q1, q2, q3, q4, q5, q6⟩ := hw0.seven
 obtain ⟨hat0, hvl⟩ := hA
 have hdv := fun W hE => dnvalue_c at0 t (by omega) ht W hE
 have hdw := fun W hE => dnvalue_c at0 vl (by omega) (by omega) W hE
 have hvL := FiS.value_len at0 t
 unfold NmTxt at hdv hdw
 have hE0 := hE.below hg0
 generalize DnS.valueS at0 t = X at *
 obtain ⟨X1, X2⟩ := X
 simp only at hdv hvL HVE
 have hdv1 := hdv _ hE0
 clear hdv
 by_cases hx2 : X2 = 0
 case neg =>
  have HRR : Hid (R = false) := hZ9 (by rw [HVE.out, if_neg hx2])
  have hn2 : (X2 != 0) = true := by simpa using hx2
  clear HVE HV1 HV2 hdw HH
  go_enter Tryz.func54, Tryz.ntmps54
  go_wp2_with fail
  refine hdv1.mono ?_; rintro e w2 ⟨rfl, hb2⟩
  have hz2 := hg0.trans (hb2.mono hg0.size)
  have hw2 := hw0.call hb2
  have hE2 := hE0.below hb2
  clear hdv1 q0 q1 q2 q3 q4 q5 q6
  obtain ⟨q0, q1, q2, q3, q4, q5, q6⟩ := hw2.seven
  go_wp2_with fail
  go_ret
  exact ⟨by (rw [HRR.out]) <;> rfl, hz2⟩
 subst hx2
 by_cases hk4 : kd = 4
 · subst hk4
   have HRR : Hid (R = PC X1) := hZ9 (by rw [HVE.out]; simp)
   clear HVE hdw
   by_cases hs1 : sy = 1
   · have HV := hZ9 (fun W h hE => HV1.out X1 W hs1 h (by omega) hE)
     subst hs1
     clear HV1 HV2
     go_enter Tryz.func54, Tryz.ntmps54
     go_wp2_with fail
     refine hdv1.mono ?_; rintro e w2 ⟨rfl, hb2⟩
     have hz2 := hg0.trans (hb2.mono hg0.size)
     have hw2 := hw0.call hb2
     have hE2 := hE0.below hb2
     clear hdv1 q0 q1 q2 q3 q4 q5 q6
     obtain ⟨q0, q1, q2, q3, q4, q5, q6⟩ := hw2.seven
     have hp := HV.out w2 (HH.out.call hz2) hE2
     clear HV HH
     go_wp2_with fail
     refine hp.mono ?_; rintro e w3 ⟨rfl, hb3⟩
     have hz3 := hz2.trans (hb3.mono hz2.size)
     clear hp
     go_wp2_with fail
     go_ret
     exact ⟨by (rw [HRR.out]) <;> rfl, hz3⟩
   · have HV := hZ9 (fun W h hE => HV2.out X1 W hs1 h (by omega) hE)
     have hs1n : (sy == 1) = false := by simpa using hs1
     clear HV1 HV2
     go_enter Tryz.func54, Tryz.ntmps54
     go_wp2_with fail
     refine hdv1.mono ?_; rintro e w2 ⟨rfl, hb2⟩
     have hz2 := hg0.trans (hb2.mono hg0.size)
     have hw2 := hw0.call hb2
     have hE2 := hE0.below hb2
     clear hdv1 q0 q1 q2 q3 q4 q5 q6
     obtain ⟨q0, q1, q2, q3, q4, q5, q6⟩ := hw2.seven
     have hp := HV.out w2 (HH.out.call hz2) hE2
     clear HV HH
     go_wp2_with fail
     refine hp.mono ?_; rintro e w3 ⟨rfl, hb3⟩
     have hz3 := hz2.trans (hb3.mono hz2.size)
     clear hp
     go_wp2_with fail
     go_ret
     exact ⟨by (rw [HRR.out]) <;> rfl, hz3⟩
 have k4 : (kd == 4) = false := by simpa using hk4
 clear HV1 HV2 HH
 by_cases h35 : kd = 3 \/ sy = 5
 · have HRR : Hid (R = (X1 == (DnS.valueS at0 vl).1)) := hZ9 (by rw [HVE.out, if_pos rfl, if_neg hk4, if_pos h35])
   have hd : (kd == 3) = true \/ ((kd == 3) = false /\ (sy == 5) = true) := by
    by_cases h3 : kd = 3
    · exact .inl (by simpa using h3)
    · exact .inr ⟨by simpa using h3, by simpa using h35.resolve_left h3⟩
   clear HVE h35 hk4
   generalize DnS.valueS at0 vl = Y at *
   obtain ⟨Y1, Y2⟩ := Y
   simp only at hdw HRR
   rcases hd with k3 | ⟨k3, s5⟩
   · go_enter Tryz.func54, Tryz.ntmps54
     go_wp2_with fail
     refine hdv1.mono ?_; rintro e w2 ⟨rfl, hb2⟩
     have hz2 := hg0.trans (hb2.mono hg0.size)
     have hw2 := hw0.call hb2
     have hE2 := hE0.below hb2
     clear hdv1 q0 q1 q2 q3 q4 q5 q6
     obtain ⟨q0, q1, q2, q3, q4, q5, q6⟩ := hw2.seven
     have hdw2 := hdw _ hE2
     clear hdw
     go_wp2_with fail
     refine hdw2.mono ?_; rintro e w3 ⟨rfl, hb3⟩
     have hz3 := hz2.trans (hb3.mono hz2.size)
     clear hdw2 q0 q1 q2 q3 q4 q5 q6
     go_wp2_with fail
     go_ret
     exact ⟨by (rw [HRR.out]) <;> rfl, hz3⟩
   · go_enter Tryz.func54, Tryz.ntmps54
     go_wp2_with fail
     refine hdv1.mono ?_; rintro e w2 ⟨rfl, hb2⟩
     have hz2 := hg0.trans (hb2.mono hg0.size)
     have hw2 := hw0.call hb2
     have hE2 := hE0.below hb2
     clear hdv1 q0 q1 q2 q3 q4 q5 q6
     obtain ⟨q0, q1, q2, q3, q4, q5, q6⟩ := hw2.seven
     have hdw2 := hdw _ hE2
     clear hdw
     go_wp2_with fail
     refine hdw2.mono ?_; rintro e w3 ⟨rfl, hb3⟩
     have hz3 := hz2.trans (hb3.mono hz2.size)
     clear hdw2 q0 q1 q2 q3 q4 q5 q6
     go_wp2_with fail
     go_ret
     exact ⟨by (rw [HRR.out]) <;> rfl, hz3⟩
 have k3 : (kd == 3) = false := by simpa using fun h => h35 (.inl h)
 have s5 : (sy == 5) = false := by simpa using fun h => h35 (.inr h)
 clear hdw
 by_cases hk8 : kd = 8
 · have HRR : Hid (R = nearB at0 t vl) := hZ9 (by rw [HVE.out, if_pos rfl, if_neg hk4, if_neg h35, if_pos hk8])
   have hnr : ∀ W, Env W -> Calls Tryz.prog 80 #[.string ⟨at0.toArray⟩, .string ⟨t.toArray⟩, .string ⟨vl.toArray⟩] W (NearRet at0 t vl W) := fun W hE => near_c ⟨at0.toArray⟩ ⟨t.toArray⟩ ⟨vl.toArray⟩ (by rw [bsize]; omega) (by rw [bsize]; omega) (by rw [bsize]; omega) W hE
   unfold NearRet at hnr
   subst hk8
   clear HVE h35 hk4
   generalize nearB at0 t vl = NB at *
   generalize errB at0 t vl = EB at *
   go_enter Tryz.func54, Tryz.ntmps54
   go_wp2_with fail
   refine hdv1.mono ?_; rintro e w2 ⟨rfl, hb2⟩
   have hz2 := hg0.trans (hb2.mono hg0.size)
   have hw2 := hw0.call hb2
   have hE2 := hE0.below hb2
   clear hdv1 q0 q1 q2 q3 q4 q5 q6
   obtain ⟨q0, q1, q2, q3, q4, q5, q6⟩ := hw2.seven
   have hnr2 := hnr _ hE2
   clear hnr
   go_wp2_with fail
   refine hnr2.mono ?_; rintro e w3 ⟨rfl, hb3⟩
   have hz3 := hz2.trans (hb3.mono hz2.size)
   clear hnr2 q0 q1 q2 q3 q4 q5 q6
   go_wp2_with fail
   go_ret
   exact ⟨by (rw [HRR.out]) <;> rfl, hz3⟩
 have k8 : (kd == 8) = false := by simpa using hk8
 have HRR : Hid (R = decide (kd = 5 /\ 0 <= cmpB at0 t vl \/ kd = 6 /\ cmpB at0 t vl <= 0)) := hZ9 (by rw [HVE.out, if_pos rfl, if_neg hk4, if_neg h35, if_neg hk8])
 have hcr : ∀ W, Env W -> Calls Tryz.prog 81 #[.string ⟨at0.toArray⟩, .string ⟨t.toArray⟩, .string ⟨vl.toArray⟩] W (CmpRet at0 t vl W) := fun W hE => rulecompare_c ⟨at0.toArray⟩ ⟨t.toArray⟩ ⟨vl.toArray⟩ (by rw [bsize]; omega) (by rw [bsize]; omega) (by rw [bsize]; omega) W hE
 unfold CmpRet at hcr
 clear HVE h35 hk8
 generalize cmpB at0 t vl = CB at *
 generalize errB at0 t vl = EB at *
 by_cases hk5 : kd = 5
 · have HR2 : Hid (R = decide (0 <= CB)) := hZ9 (by rw [HRR.out]; exact decide_eq_decide.2 ⟨fun h => by omega, fun h => .inl ⟨hk5, h⟩⟩)
   subst hk5
   clear HRR hk4
   go_enter Tryz.func54, Tryz.ntmps54
   go_wp2_with fail
   refine hdv1.mono ?_; rintro e w2 ⟨rfl, hb2⟩
   have hz2 := hg0.trans (hb2.mono hg0.size)
   have hw2 := hw0.call hb2
   have hE2 := hE0.below hb2
   clear hdv1 q0 q1 q2 q3 q4 q5 q6
   obtain ⟨q0, q1, q2, q3, q4, q5, q6⟩ := hw2.seven
   have hcr2 := hcr _ hE2
   clear hcr
   go_wp2_with fail
   refine hcr2.mono ?_; rintro e w3 ⟨rfl, hb3⟩
   have hz3 := hz2.trans (hb3.mono hz2.size)
   have hw3 := hw2.call hb3
   clear hcr2 q0 q1 q2 q3 q4 q5 q6
   obtain ⟨q0, q1, q2, q3, q4, q5, q6⟩ := hw3.seven
   by_cases hc0 : 0 <= CB
   · have hd1 : decide (0 <= CB) = true := decide_eq_true hc0
     go_wp2_with fail
     go_ret
     exact ⟨by (rw [HR2.out, hd1]) <;> rfl, hz3⟩
   · have hd1 : decide (0 <= CB) = false := decide_eq_false hc0
     go_wp2_with fail
     go_ret
     exact ⟨by (rw [HR2.out, hd1]) <;> rfl, hz3⟩
 have k5 : (kd == 5) = false := by simpa using hk5
 by_cases hk6 : kd = 6
 · have HR2 : Hid (R = decide (CB <= 0)) := hZ9 (by rw [HRR.out]; exact decide_eq_decide.2 ⟨fun h => by omega, fun h => .inr ⟨hk6, h⟩⟩)
   subst hk6
   clear HRR hk4 hk5
   go_enter Tryz.func54, Tryz.ntmps54
   go_wp2_with fail
   refine hdv1.mono ?_; rintro e w2 ⟨rfl, hb2⟩
   have hz2 := hg0.trans (hb2.mono hg0.size)
   have hw2 := hw0.call hb2
   have hE2 := hE0.below hb2
   clear hdv1 q0 q1 q2 q3 q4 q5 q6
   obtain ⟨q0, q1, q2, q3, q4, q5, q6⟩ := hw2.seven
   have hcr2 := hcr _ hE2
   clear hcr
   go_wp2_with fail
   refine hcr2.mono ?_; rintro e w3 ⟨rfl, hb3⟩
   have hz3 := hz2.trans (hb3.mono hz2.size)
   have hw3 := hw2.call hb3
   clear hcr2 q0 q1 q2 q3 q4 q5 q6
   obtain ⟨q0, q1, q2, q3, q4, q5, q6⟩ := hw3.seven
   by_cases hc0 : CB <= 0
   · have hd1 : decide (CB <= 0) = true := decide_eq_true hc0
     go_wp2_with fail
     go_ret
     exact ⟨by (rw [HR2.out, hd1]) <;> rfl, hz3⟩
   · have hd1 : decide (CB <= 0) = false := decide_eq_false hc0
     go_wp2_with fail
     go_ret
     exact ⟨by (rw [HR2.out, hd1]) <;> rfl, hz3⟩
 have k6 : (kd == 6) = false := by simpa using hk6
 have HR2 : Hid (R = false) := hZ9 (by rw [HRR.out]; exact decide_eq_false (by omega))
 clear HRR hk4 hk5 hk6
 go_enter Tryz.func54, Tryz.ntmps54
 go_wp2_with fail
 refine hdv1.mono ?_; rintro e w2 ⟨rfl, hb2⟩
 have hz2 := hg0.trans (hb2.mono hg0.size)
 have hw2 := hw0.call hb2
 have hE2 := hE0.below hb2
 clear hdv1 q0 q1 q2 q3 q4 q5 q6
 obtain ⟨q0, q1, q2, q3, q4, q5, q6⟩ := hw2.seven
 have hcr2 := hcr _ hE2
 clear hcr
 go_wp2_with fail
 refine hcr2.mono ?_; rintro e w3 ⟨rfl, hb3⟩
 have hz3 := hz2.trans (hb3.mono hz2.size)
 have hw3 := hw2.call hb3
 clear hcr2 q0 q1 q2 q3 q4 q5 q6
 obtain ⟨q0, q1, q2, q3, q4, q5, q6⟩ := hw3.seven
 go_wp2_with fail
 go_ret
 exact ⟨by (rw [HR2.out]) <;> rfl, hz3⟩
end Go.Proofs.YtjmfknfponjgkaaGreatDoor
