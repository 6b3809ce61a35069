/- The walks of the program's pieces and value of a filter. Conditions: as stated. -/
import Derived.Test.YtgngjfjaelgaeaaGreatDoorKDnv
set_option maxRecDepth 100000
set_option maxHeartbeats 8000000
namespace Go.Proofs.YtgngjfjaelgaeaaGreatDoor
namespace FiS
theorem QT (sy:Int) (p:List UInt8):(Aq sy p).length=p.length:=by
 unfold Aq
 split
 · exact RuS.lower_length p
 · rfl
theorem LH {f l s:List UInt8} {any:List (List UInt8)} (h:Lib.hasPrefix s f=false):CC f l any s=false:=by
 unfold CC Ku
 rw [h,if_neg (by simp)]
theorem LI {f l s:List UInt8} {any:List (List UInt8)} (h:Lib.hasPrefix s f=true) (h2:Lib.hasSuffix (s.drop f.length) l=false):CC f l any s=false:=by
 unfold CC Ku
 rw [h,if_pos rfl,h2,if_neg (by simp)]
theorem OS {f l s:List UInt8} {any:List (List UInt8)} (h:Lib.hasPrefix s f=true) (h2:Lib.hasSuffix (s.drop f.length) l=true):CC f l any s=Gs any ((s.drop f.length).take ((s.drop f.length).length - l.length)):=by
 unfold CC Ku
 rw [h,if_pos rfl,h2,if_pos rfl]
theorem Aaa (a x:List UInt8):(DnS.AB a x).1.length<=1000:=by
 unfold DnS.AB
 split
 · split
   · simp
   · split
     · exact DnS.GZ x
     · simp
 · exact Nat.le_trans (RuS.normal_len a x) (by decide)
end FiS
open Go.RowKit
open FiS (Fi)
attribute [local go_sem ↓] Go.wp_at_zero Go.wp_at_succ
theorem Aab (s:ByteArray) (w:World):Calls Tryz.prog 188 #[.string s] w fun e w'=>e=.returned (.string s)/\w=w':=by
 go_enter Tryz.func188,Tryz.ntmps188
 go_wp2_with fail
 go_ret
 exact ⟨rfl,rfl⟩
theorem RZ (n:Nat) (x:Fi) (v:Value) (s:List UInt8) (sy:Int) (F4:sy=1) (w:World) (h:Dq n w v x) (E9:FiS.wdF 20000 x) (hs:s.length<=20000) (hE:Env w):Calls Tryz.prog 187 #[v,.string ⟨s.toArray⟩,.func (.func 86) #[] #[]] w (CH (FiS.CC (FiS.Aq sy x.first) (FiS.Aq sy x.last) (x.any.map (FiS.Aq sy)) s) w):=by
 have hG:∀(p:List UInt8) (W:World),p.length<=20000->Calls Tryz.prog 86 #[.string ⟨p.toArray⟩] W fun e w'=>e=.returned (.string ⟨(FiS.Aq sy p).toArray⟩)/\Below W.heap.size W w':=fun p W hp=>by
  have h:=lower_c ⟨p.toArray⟩ (by rw [Ef];omega) W
  unfold BO at h
  have e:FiS.Aq sy p=RuS.lower p:=by unfold FiS.Aq;rw [if_pos F4]
  rw [e]
  exact h
 have HG:=hZ9 hG
 have B4:Hid (∀p,(FiS.Aq sy p).length=p.length):=hZ9 (fun p=>FiS.QT sy p)
 clear hG
 obtain ⟨kd,E3,vl,fs,ls,an,ps⟩:=x
 obtain ⟨a5,c5,a6,c6,hv,C6,D1,D3⟩:=FiV.parts h
 have hv:v=.agg #[.int .i64 kd,.string ⟨E3.toArray⟩,.string ⟨vl.toArray⟩,.string ⟨fs.toArray⟩,.string ⟨ls.toArray⟩,.slice a5 an.length c5,.slice a6 ps.length c6]:=hv
 subst hv
 have C6:Ai w (.slice a5 an.length c5) an:=C6
 have D1:ps.length<=c6:=D1
 have D3:BR n (fun _=>True) w (.slice a6 ps.length c6) ps:=D3
 rw [FiS.wdF] at E9
 obtain ⟨⟨G0,H2,F6,F8⟩,D7,A4,_,_⟩:=E9
 have A1:=hZ9 (fun j (hj:j<an.length)=>A4 an[j] (List.getElem_mem hj))
 clear A4
 obtain ⟨AL,B3⟩:∃m,an.length=m:=⟨_,rfl⟩
 obtain ⟨PL,D5⟩:∃m,ps.length=m:=⟨_,rfl⟩
 have G1:=hZ9 B3
 have G3:=hZ9 D5
 rw [B3] at C6
 rw [D5] at D1 D3
 try rw [B3]
 try rw [D5]
 have B6:=Af w (.cells #[.int .i64 kd,.string ⟨E3.toArray⟩,.string ⟨vl.toArray⟩,.string ⟨fs.toArray⟩,.string ⟨ls.toArray⟩,.slice a5 AL c5,.slice a6 PL c6] 36)
 have E0:=Whole.made w 36 #[.int .i64 kd,.string ⟨E3.toArray⟩,.string ⟨vl.toArray⟩,.string ⟨fs.toArray⟩,.string ⟨ls.toArray⟩,.slice a5 AL c5,.slice a6 PL c6]
 obtain ⟨q0,q1,q2,q3,q4,q5,q6⟩:=E0.seven
 rw [B3] at D7
 obtain ⟨a',c',e,G5,E1⟩:=Ae.at (C6.strsP (fun _=>True) (fun _ _=>trivial))
 injection e with e1 e2 e3
 rw [<-e1] at E1
 have C4:=hZ9 E1
 have C7:=hZ9 (fun j (hj:j<an.length)=>List.drop_eq_getElem_cons hj)
 have A0:Hid (an.drop AL=[]):=hZ9 (by rw [<-B3];exact List.drop_length)
 show Calls _ _ _ _ (CH (FiS.CC (FiS.Aq sy fs) (FiS.Aq sy ls) (an.map (FiS.Aq sy)) s) w)
 clear E1 C6 e1 e2 e3 G5 h D3 B3 D5 G3 D1
 have B2:=fun W=>HG.out fs W F6
 have B9:=fun W=>HG.out ls W F8
 have G8:=B4.out fs
 have G7:=B4.out ls
 generalize FiS.Aq sy fs=F1 at*
 generalize FiS.Aq sy ls=L1 at*
 have D0:=hZ9 (fun h=>@FiS.LH F1 L1 s (an.map (FiS.Aq sy)) h)
 have C8:=hZ9 (fun h h2=>@FiS.LI F1 L1 s (an.map (FiS.Aq sy)) h h2)
 have D2:=hZ9 (fun h h2=>@FiS.OS F1 L1 s (an.map (FiS.Aq sy)) h h2)
 obtain ⟨R,hR⟩:∃r,FiS.CC F1 L1 (an.map (FiS.Aq sy)) s=r:=⟨_,rfl⟩
 rw [hR] at D0 C8 D2⊢
 clear hR
 unfold CH
 have B1:∀W,Calls Tryz.prog 210 #[.string ⟨s.toArray⟩,.string ⟨F1.toArray⟩] W fun e w'=>e=.returned (.tuple #[.string ⟨(Lib.trimPrefix s F1).toArray⟩,.bool (Lib.hasPrefix s F1)])/\w'=W:=fun W=>Tryz.strings_CutPrefix ⟨s.toArray⟩ ⟨F1.toArray⟩ W
 have A6:Hid (Lib.hasPrefix s F1=true->Lib.trimPrefix s F1=s.drop F1.length):=hZ9 (fun h=>by unfold Lib.trimPrefix;rw [if_pos h])
 have H0:(s.drop F1.length).length<=20000:=by rw [List.length_drop];omega
 cases hp:Lib.hasPrefix s F1 with
 | false=>
  have E4:Hid (R=false):=hZ9 (D0.out hp)
  rw [hp] at B1
  clear hp D0 C8 D2 A6 HG B4 A1 C4 C7 A0 B9
  go_enter Tryz.func187,Tryz.ntmps187
  go_wp2_with fail
  refine (B2 _).mono ?_;rintro e w2 ⟨rfl,A3⟩
  have A5:=B6.trans (A3.mono B6.size)
  clear B2 q0 q1 q2 q3 q4 q5 q6
  go_wp2_with fail
  refine (B1 _).mono ?_;rintro e w3 ⟨rfl,rfl⟩
  go_wp2_with fail
  go_ret
  exact ⟨by (rw [E4.out]) <;> rfl,A5⟩
 | true=>
  rw [hp,A6.out hp] at B1
  have A8:=hZ9 (fun h2=>C8.out hp h2)
  have A7:=hZ9 (fun h2=>D2.out hp h2)
  clear hp D0 C8 D2 A6
  generalize s.drop F1.length=s1 at*
  have C2:∀W,Calls Tryz.prog 206 #[.string ⟨s1.toArray⟩,.string ⟨L1.toArray⟩] W fun e w'=>e=.returned (.tuple #[.string ⟨(Lib.trimSuffix s1 L1).toArray⟩,.bool (Lib.hasSuffix s1 L1)])/\w'=W:=fun W=>Tryz.strings_CutSuffix ⟨s1.toArray⟩ ⟨L1.toArray⟩ W (by rw [Ef];omega)
  have A6:Hid (Lib.hasSuffix s1 L1=true->Lib.trimSuffix s1 L1=s1.take (s1.length - L1.length)):=hZ9 (fun h=>by unfold Lib.trimSuffix;rw [if_pos h])
  have E5:(s1.take (s1.length - L1.length)).length<=20000:=by rw [List.length_take];omega
  cases hp:Lib.hasSuffix s1 L1 with
  | false=>
   have E4:Hid (R=false):=hZ9 (A8.out hp)
   rw [hp] at C2
   clear hp A8 A7 A6 HG B4 A1 C4 C7 A0
   go_enter Tryz.func187,Tryz.ntmps187
   go_wp2_with fail
   refine (B2 _).mono ?_;rintro e w2 ⟨rfl,A3⟩
   have A5:=B6.trans (A3.mono B6.size)
   have C1:=E0.call A3
   clear B2 q0 q1 q2 q3 q4 q5 q6
   obtain ⟨q0,q1,q2,q3,q4,q5,q6⟩:=C1.seven
   go_wp2_with fail
   refine (B1 _).mono ?_;rintro e w3 ⟨rfl,rfl⟩
   go_wp2_with fail
   refine (B9 _).mono ?_;rintro e w4 ⟨rfl,B7⟩
   have D6:=A5.trans (B7.mono A5.size)
   clear B9 q0 q1 q2 q3 q4 q5 q6
   go_wp2_with fail
   refine (C2 _).mono ?_;rintro e w5 ⟨rfl,rfl⟩
   go_wp2_with fail
   go_ret
   exact ⟨by (rw [E4.out]) <;> rfl,D6⟩
  | true=>
   rw [hp,A6.out hp] at C2
   have F0:=hZ9 (A7.out hp)
   clear hp A8 A7 A6
   generalize s1.take (s1.length - L1.length)=s2 at*
   go_enter Tryz.func187,Tryz.ntmps187
   go_wp2_with fail
   refine (B2 _).mono ?_;rintro e w2 ⟨rfl,A3⟩
   have A5:=B6.trans (A3.mono B6.size)
   have C1:=E0.call A3
   clear B2 q0 q1 q2 q3 q4 q5 q6
   obtain ⟨q0,q1,q2,q3,q4,q5,q6⟩:=C1.seven
   go_wp2_with fail
   refine (B1 _).mono ?_;rintro e w3 ⟨rfl,rfl⟩
   go_wp2_with fail
   refine (B9 _).mono ?_;rintro e w4 ⟨rfl,B7⟩
   have D6:=A5.trans (B7.mono A5.size)
   have F2:=C1.call B7
   clear B9 q0 q1 q2 q3 q4 q5 q6 C1 A3 B7 A5
   obtain ⟨q0,q1,q2,q3,q4,q5,q6⟩:=F2.seven
   go_wp2_with fail
   refine (C2 _).mono ?_;rintro e w5 ⟨rfl,rfl⟩
   clear B1 C2
   go_wp2_with fail
   clear q0 q1 q2 q3 q4 q5 q6 F2
   go_loopw [1,35] (fun sv i wr=>∃(j:Nat) (q:List UInt8),j<=AL/\i=.int .i64 j/\sv=.string ⟨q.toArray⟩/\q.length<=20000/\Hid (R=FiS.Gs ((an.drop j).map (FiS.Aq sy)) q)/\Below w.heap.size w wr) (fun _ i _=>AL - (intOf i).toNat)
   case atStart=>exact ⟨0,s2,Nat.zero_le _,rfl,rfl,E5,hZ9 (by rw [F0.out,List.drop_zero]),D6⟩
   case round=>
    obtain ⟨j,q,hj,rfl,rfl,H1,HQ,hb⟩:=hrel
    clear D6 F0
    by_cases F5:j<AL
    · have A9:j<an.length:=by rw [G1.out];exact F5
      have E7:=hZ9 (C7.out j A9)
      have D9:=A1.out j A9
      obtain ⟨g,o,F7,hg,_,hra⟩:=C4.out j A9
      have G2:wr.cell? ⟨g,o+j,none⟩=some (Ac an[j]):=by
       have:w.cell? ⟨g,o+j*1,none⟩=some (Ac an[j]):=hra
       rw [Nat.mul_one] at this
       exact Ab this hb
      clear hra C4 C7 A1 A0
      subst F7
      generalize an[j]=p at*
      unfold Ac at G2
      have D4:=HG.out p wr D9
      have E8:=B4.out p
      have C9:Hid (R=if 0<=Lib.index q (FiS.Aq sy p) then FiS.Gs ((an.drop (j+1)).map (FiS.Aq sy)) (q.drop ((Lib.index q (FiS.Aq sy p)).toNat+(FiS.Aq sy p).length)) else false):=hZ9 (by rw [HQ.out,E7.out,List.map_cons,FiS.Gs])
      clear HQ E7
      generalize FiS.Aq sy p=P1 at*
      have F3:=hE.below hb
      obtain ⟨m,hm⟩:=F3.maxLen
      have H3:(0:Int)<=(j:Int):=by omega
      have G9:(j:Int)<(AL:Int):=by omega
      have B5:Hid (∀W,Below wr.heap.size wr W->Calls Tryz.prog 168 #[.string ⟨q.toArray⟩,.string ⟨P1.toArray⟩] W fun e w'=>e=.returned (.tuple #[.string ⟨(Lib.cut q P1).1.toArray⟩,.string ⟨(Lib.cut q P1).2.1.toArray⟩,.bool (Lib.cut q P1).2.2])/\Below W.heap.size W w'):=hZ9 (fun W G6=>by
       obtain ⟨m,hm⟩:=(F3.below G6).maxLen
       refine (Tryz.strings_Cut ⟨q.toArray⟩ ⟨P1.toArray⟩ m W (by rw [Ef];omega) hm).mono ?_
       rintro e w' ⟨rfl,k,rfl⟩
       exact ⟨rfl,below_drewN W k⟩)
      have E2:∀k,(q.drop k).length<=20000:=fun k=>by rw [List.length_drop];omega
      clear hm
      by_cases B0:0<=Lib.index q P1
      · have C0:Hid (R=FiS.Gs ((an.drop (j+1)).map (FiS.Aq sy)) (q.drop ((Lib.index q P1).toNat+P1.length))):=hZ9 (by rw [C9.out,if_pos B0])
        have B8:Lib.cut q P1=(q.take (Lib.index q P1).toNat,q.drop ((Lib.index q P1).toNat+P1.length),true):=by unfold Lib.cut;rw [if_pos B0]
        rw [B8] at B5
        have G4:=E2 ((Lib.index q P1).toNat+P1.length)
        clear B8 E2 C9 B0
        generalize q.drop ((Lib.index q P1).toNat+P1.length)=q2 at*
        generalize q.take (Lib.index q P1).toNat=q1 at*
        go_wp2_with fail
        refine D4.mono ?_;rintro e w6 ⟨rfl,C3⟩
        have A2:=B5.out w6 C3
        have C5:=hb.trans (C3.mono hb.size)
        clear D4 B5
        go_wp2_with fail
        refine A2.mono ?_;rintro e w7 ⟨rfl,E6⟩
        have D8:=C5.trans (E6.mono C5.size)
        clear A2
        go_wp2_with fail
        go_roundw
        case rel=>exact ⟨j+1,q2,by omega,by go_num,rfl,G4,C0,D8⟩
        case measure=>simp [intOf];omega
      · have C0:Hid (R=false):=hZ9 (by rw [C9.out,if_neg B0])
        have B8:Lib.cut q P1=(q,[],false):=by unfold Lib.cut;rw [if_neg B0]
        rw [B8] at B5
        clear B8 E2 C9 B0
        go_wp2_with fail
        refine D4.mono ?_;rintro e w6 ⟨rfl,C3⟩
        have A2:=B5.out w6 C3
        have C5:=hb.trans (C3.mono hb.size)
        clear D4 B5
        go_wp2_with fail
        refine A2.mono ?_;rintro e w7 ⟨rfl,E6⟩
        have D8:=C5.trans (E6.mono C5.size)
        clear A2
        go_wp2_with fail
        go_ret
        exact ⟨by (rw [C0.out]) <;> rfl,D8⟩
    · have F9:j=AL:=by omega
      subst F9
      have C0:Hid (R=true):=hZ9 (by rw [HQ.out,A0.out];rfl)
      clear C4 C7 A1 A0 HQ HG B4
      go_wp2_with fail
      go_ret
      exact ⟨by (rw [C0.out]) <;> rfl,hb⟩
theorem TN (n:Nat) (x:Fi) (v:Value) (s:List UInt8) (sy:Int) (F4:sy≠1) (w:World) (h:Dq n w v x) (E9:FiS.wdF 20000 x) (hs:s.length<=20000) (hE:Env w):Calls Tryz.prog 187 #[v,.string ⟨s.toArray⟩,.func (.func 188) #[] #[]] w (CH (FiS.CC (FiS.Aq sy x.first) (FiS.Aq sy x.last) (x.any.map (FiS.Aq sy)) s) w):=by
 have hG:∀(p:List UInt8) (W:World),p.length<=20000->Calls Tryz.prog 188 #[.string ⟨p.toArray⟩] W fun e w'=>e=.returned (.string ⟨(FiS.Aq sy p).toArray⟩)/\Below W.heap.size W w':=fun p W hp=>by
  have e:FiS.Aq sy p=p:=by unfold FiS.Aq;rw [if_neg F4]
  rw [e]
  refine (Aab ⟨p.toArray⟩ W).mono ?_
  rintro e w' ⟨rfl,rfl⟩
  exact ⟨rfl,Below.refl _ _⟩
 have HG:=hZ9 hG
 have B4:Hid (∀p,(FiS.Aq sy p).length=p.length):=hZ9 (fun p=>FiS.QT sy p)
 clear hG
 obtain ⟨kd,E3,vl,fs,ls,an,ps⟩:=x
 obtain ⟨a5,c5,a6,c6,hv,C6,D1,D3⟩:=FiV.parts h
 have hv:v=.agg #[.int .i64 kd,.string ⟨E3.toArray⟩,.string ⟨vl.toArray⟩,.string ⟨fs.toArray⟩,.string ⟨ls.toArray⟩,.slice a5 an.length c5,.slice a6 ps.length c6]:=hv
 subst hv
 have C6:Ai w (.slice a5 an.length c5) an:=C6
 have D1:ps.length<=c6:=D1
 have D3:BR n (fun _=>True) w (.slice a6 ps.length c6) ps:=D3
 rw [FiS.wdF] at E9
 obtain ⟨⟨G0,H2,F6,F8⟩,D7,A4,_,_⟩:=E9
 have A1:=hZ9 (fun j (hj:j<an.length)=>A4 an[j] (List.getElem_mem hj))
 clear A4
 obtain ⟨AL,B3⟩:∃m,an.length=m:=⟨_,rfl⟩
 obtain ⟨PL,D5⟩:∃m,ps.length=m:=⟨_,rfl⟩
 have G1:=hZ9 B3
 have G3:=hZ9 D5
 rw [B3] at C6
 rw [D5] at D1 D3
 try rw [B3]
 try rw [D5]
 have B6:=Af w (.cells #[.int .i64 kd,.string ⟨E3.toArray⟩,.string ⟨vl.toArray⟩,.string ⟨fs.toArray⟩,.string ⟨ls.toArray⟩,.slice a5 AL c5,.slice a6 PL c6] 36)
 have E0:=Whole.made w 36 #[.int .i64 kd,.string ⟨E3.toArray⟩,.string ⟨vl.toArray⟩,.string ⟨fs.toArray⟩,.string ⟨ls.toArray⟩,.slice a5 AL c5,.slice a6 PL c6]
 obtain ⟨q0,q1,q2,q3,q4,q5,q6⟩:=E0.seven
 rw [B3] at D7
 obtain ⟨a',c',e,G5,E1⟩:=Ae.at (C6.strsP (fun _=>True) (fun _ _=>trivial))
 injection e with e1 e2 e3
 rw [<-e1] at E1
 have C4:=hZ9 E1
 have C7:=hZ9 (fun j (hj:j<an.length)=>List.drop_eq_getElem_cons hj)
 have A0:Hid (an.drop AL=[]):=hZ9 (by rw [<-B3];exact List.drop_length)
 show Calls _ _ _ _ (CH (FiS.CC (FiS.Aq sy fs) (FiS.Aq sy ls) (an.map (FiS.Aq sy)) s) w)
 clear E1 C6 e1 e2 e3 G5 h D3 B3 D5 G3 D1
 have B2:=fun W=>HG.out fs W F6
 have B9:=fun W=>HG.out ls W F8
 have G8:=B4.out fs
 have G7:=B4.out ls
 generalize FiS.Aq sy fs=F1 at*
 generalize FiS.Aq sy ls=L1 at*
 have D0:=hZ9 (fun h=>@FiS.LH F1 L1 s (an.map (FiS.Aq sy)) h)
 have C8:=hZ9 (fun h h2=>@FiS.LI F1 L1 s (an.map (FiS.Aq sy)) h h2)
 have D2:=hZ9 (fun h h2=>@FiS.OS F1 L1 s (an.map (FiS.Aq sy)) h h2)
 obtain ⟨R,hR⟩:∃r,FiS.CC F1 L1 (an.map (FiS.Aq sy)) s=r:=⟨_,rfl⟩
 rw [hR] at D0 C8 D2⊢
 clear hR
 unfold CH
 have B1:∀W,Calls Tryz.prog 210 #[.string ⟨s.toArray⟩,.string ⟨F1.toArray⟩] W fun e w'=>e=.returned (.tuple #[.string ⟨(Lib.trimPrefix s F1).toArray⟩,.bool (Lib.hasPrefix s F1)])/\w'=W:=fun W=>Tryz.strings_CutPrefix ⟨s.toArray⟩ ⟨F1.toArray⟩ W
 have A6:Hid (Lib.hasPrefix s F1=true->Lib.trimPrefix s F1=s.drop F1.length):=hZ9 (fun h=>by unfold Lib.trimPrefix;rw [if_pos h])
 have H0:(s.drop F1.length).length<=20000:=by rw [List.length_drop];omega
 cases hp:Lib.hasPrefix s F1 with
 | false=>
  have E4:Hid (R=false):=hZ9 (D0.out hp)
  rw [hp] at B1
  clear hp D0 C8 D2 A6 HG B4 A1 C4 C7 A0 B9
  go_enter Tryz.func187,Tryz.ntmps187
  go_wp2_with fail
  refine (B2 _).mono ?_;rintro e w2 ⟨rfl,A3⟩
  have A5:=B6.trans (A3.mono B6.size)
  clear B2 q0 q1 q2 q3 q4 q5 q6
  go_wp2_with fail
  refine (B1 _).mono ?_;rintro e w3 ⟨rfl,rfl⟩
  go_wp2_with fail
  go_ret
  exact ⟨by (rw [E4.out]) <;> rfl,A5⟩
 | true=>
  rw [hp,A6.out hp] at B1
  have A8:=hZ9 (fun h2=>C8.out hp h2)
  have A7:=hZ9 (fun h2=>D2.out hp h2)
  clear hp D0 C8 D2 A6
  generalize s.drop F1.length=s1 at*
  have C2:∀W,Calls Tryz.prog 206 #[.string ⟨s1.toArray⟩,.string ⟨L1.toArray⟩] W fun e w'=>e=.returned (.tuple #[.string ⟨(Lib.trimSuffix s1 L1).toArray⟩,.bool (Lib.hasSuffix s1 L1)])/\w'=W:=fun W=>Tryz.strings_CutSuffix ⟨s1.toArray⟩ ⟨L1.toArray⟩ W (by rw [Ef];omega)
  have A6:Hid (Lib.hasSuffix s1 L1=true->Lib.trimSuffix s1 L1=s1.take (s1.length - L1.length)):=hZ9 (fun h=>by unfold Lib.trimSuffix;rw [if_pos h])
  have E5:(s1.take (s1.length - L1.length)).length<=20000:=by rw [List.length_take];omega
  cases hp:Lib.hasSuffix s1 L1 with
  | false=>
   have E4:Hid (R=false):=hZ9 (A8.out hp)
   rw [hp] at C2
   clear hp A8 A7 A6 HG B4 A1 C4 C7 A0
   go_enter Tryz.func187,Tryz.ntmps187
   go_wp2_with fail
   refine (B2 _).mono ?_;rintro e w2 ⟨rfl,A3⟩
   have A5:=B6.trans (A3.mono B6.size)
   have C1:=E0.call A3
   clear B2 q0 q1 q2 q3 q4 q5 q6
   obtain ⟨q0,q1,q2,q3,q4,q5,q6⟩:=C1.seven
   go_wp2_with fail
   refine (B1 _).mono ?_;rintro e w3 ⟨rfl,rfl⟩
   go_wp2_with fail
   refine (B9 _).mono ?_;rintro e w4 ⟨rfl,B7⟩
   have D6:=A5.trans (B7.mono A5.size)
   clear B9 q0 q1 q2 q3 q4 q5 q6
   go_wp2_with fail
   refine (C2 _).mono ?_;rintro e w5 ⟨rfl,rfl⟩
   go_wp2_with fail
   go_ret
   exact ⟨by (rw [E4.out]) <;> rfl,D6⟩
  | true=>
   rw [hp,A6.out hp] at C2
   have F0:=hZ9 (A7.out hp)
   clear hp A8 A7 A6
   generalize s1.take (s1.length - L1.length)=s2 at*
   go_enter Tryz.func187,Tryz.ntmps187
   go_wp2_with fail
   refine (B2 _).mono ?_;rintro e w2 ⟨rfl,A3⟩
   have A5:=B6.trans (A3.mono B6.size)
   have C1:=E0.call A3
   clear B2 q0 q1 q2 q3 q4 q5 q6
   obtain ⟨q0,q1,q2,q3,q4,q5,q6⟩:=C1.seven
   go_wp2_with fail
   refine (B1 _).mono ?_;rintro e w3 ⟨rfl,rfl⟩
   go_wp2_with fail
   refine (B9 _).mono ?_;rintro e w4 ⟨rfl,B7⟩
   have D6:=A5.trans (B7.mono A5.size)
   have F2:=C1.call B7
   clear B9 q0 q1 q2 q3 q4 q5 q6 C1 A3 B7 A5
   obtain ⟨q0,q1,q2,q3,q4,q5,q6⟩:=F2.seven
   go_wp2_with fail
   refine (C2 _).mono ?_;rintro e w5 ⟨rfl,rfl⟩
   clear B1 C2
   go_wp2_with fail
   clear q0 q1 q2 q3 q4 q5 q6 F2
   go_loopw [1,35] (fun sv i wr=>∃(j:Nat) (q:List UInt8),j<=AL/\i=.int .i64 j/\sv=.string ⟨q.toArray⟩/\q.length<=20000/\Hid (R=FiS.Gs ((an.drop j).map (FiS.Aq sy)) q)/\Below w.heap.size w wr) (fun _ i _=>AL - (intOf i).toNat)
   case atStart=>exact ⟨0,s2,Nat.zero_le _,rfl,rfl,E5,hZ9 (by rw [F0.out,List.drop_zero]),D6⟩
   case round=>
    obtain ⟨j,q,hj,rfl,rfl,H1,HQ,hb⟩:=hrel
    clear D6 F0
    by_cases F5:j<AL
    · have A9:j<an.length:=by rw [G1.out];exact F5
      have E7:=hZ9 (C7.out j A9)
      have D9:=A1.out j A9
      obtain ⟨g,o,F7,hg,_,hra⟩:=C4.out j A9
      have G2:wr.cell? ⟨g,o+j,none⟩=some (Ac an[j]):=by
       have:w.cell? ⟨g,o+j*1,none⟩=some (Ac an[j]):=hra
       rw [Nat.mul_one] at this
       exact Ab this hb
      clear hra C4 C7 A1 A0
      subst F7
      generalize an[j]=p at*
      unfold Ac at G2
      have D4:=HG.out p wr D9
      have E8:=B4.out p
      have C9:Hid (R=if 0<=Lib.index q (FiS.Aq sy p) then FiS.Gs ((an.drop (j+1)).map (FiS.Aq sy)) (q.drop ((Lib.index q (FiS.Aq sy p)).toNat+(FiS.Aq sy p).length)) else false):=hZ9 (by rw [HQ.out,E7.out,List.map_cons,FiS.Gs])
      clear HQ E7
      generalize FiS.Aq sy p=P1 at*
      have F3:=hE.below hb
      obtain ⟨m,hm⟩:=F3.maxLen
      have H3:(0:Int)<=(j:Int):=by omega
      have G9:(j:Int)<(AL:Int):=by omega
      have B5:Hid (∀W,Below wr.heap.size wr W->Calls Tryz.prog 168 #[.string ⟨q.toArray⟩,.string ⟨P1.toArray⟩] W fun e w'=>e=.returned (.tuple #[.string ⟨(Lib.cut q P1).1.toArray⟩,.string ⟨(Lib.cut q P1).2.1.toArray⟩,.bool (Lib.cut q P1).2.2])/\Below W.heap.size W w'):=hZ9 (fun W G6=>by
       obtain ⟨m,hm⟩:=(F3.below G6).maxLen
       refine (Tryz.strings_Cut ⟨q.toArray⟩ ⟨P1.toArray⟩ m W (by rw [Ef];omega) hm).mono ?_
       rintro e w' ⟨rfl,k,rfl⟩
       exact ⟨rfl,below_drewN W k⟩)
      have E2:∀k,(q.drop k).length<=20000:=fun k=>by rw [List.length_drop];omega
      clear hm
      by_cases B0:0<=Lib.index q P1
      · have C0:Hid (R=FiS.Gs ((an.drop (j+1)).map (FiS.Aq sy)) (q.drop ((Lib.index q P1).toNat+P1.length))):=hZ9 (by rw [C9.out,if_pos B0])
        have B8:Lib.cut q P1=(q.take (Lib.index q P1).toNat,q.drop ((Lib.index q P1).toNat+P1.length),true):=by unfold Lib.cut;rw [if_pos B0]
        rw [B8] at B5
        have G4:=E2 ((Lib.index q P1).toNat+P1.length)
        clear B8 E2 C9 B0
        generalize q.drop ((Lib.index q P1).toNat+P1.length)=q2 at*
        generalize q.take (Lib.index q P1).toNat=q1 at*
        go_wp2_with fail
        refine D4.mono ?_;rintro e w6 ⟨rfl,C3⟩
        have A2:=B5.out w6 C3
        have C5:=hb.trans (C3.mono hb.size)
        clear D4 B5
        go_wp2_with fail
        refine A2.mono ?_;rintro e w7 ⟨rfl,E6⟩
        have D8:=C5.trans (E6.mono C5.size)
        clear A2
        go_wp2_with fail
        go_roundw
        case rel=>exact ⟨j+1,q2,by omega,by go_num,rfl,G4,C0,D8⟩
        case measure=>simp [intOf];omega
      · have C0:Hid (R=false):=hZ9 (by rw [C9.out,if_neg B0])
        have B8:Lib.cut q P1=(q,[],false):=by unfold Lib.cut;rw [if_neg B0]
        rw [B8] at B5
        clear B8 E2 C9 B0
        go_wp2_with fail
        refine D4.mono ?_;rintro e w6 ⟨rfl,C3⟩
        have A2:=B5.out w6 C3
        have C5:=hb.trans (C3.mono hb.size)
        clear D4 B5
        go_wp2_with fail
        refine A2.mono ?_;rintro e w7 ⟨rfl,E6⟩
        have D8:=C5.trans (E6.mono C5.size)
        clear A2
        go_wp2_with fail
        go_ret
        exact ⟨by (rw [C0.out]) <;> rfl,D8⟩
    · have F9:j=AL:=by omega
      subst F9
      have C0:Hid (R=true):=hZ9 (by rw [HQ.out,A0.out];rfl)
      clear C4 C7 A1 A0 HQ HG B4
      go_wp2_with fail
      go_ret
      exact ⟨by (rw [C0.out]) <;> rfl,hb⟩
theorem Aac (n:Nat) (x:Fi) (v:Value) (t:List UInt8) (sy:Int) (D5:(RuS.typeOf x.attr).2=sy) (w:World) (h:Dq n w v x) (B7:FiS.wdF 20000 x) (ht:t.length<=1000000) (hE:Env w):Calls Tryz.prog 160 #[v,.string ⟨t.toArray⟩,.int .i64 sy] w (CH (FiS.FK x.kind x.attr x.value x.first x.last x.any t) w):=by
 have D1:=B7
 have hA:x.attr.length<=20000/\x.value.length<=20000:=by
  cases x
  rw [FiS.wdF] at B7
  exact ⟨B7.1.1,B7.1.2.1⟩
 have B0:Hid (FiS.FK x.kind x.attr x.value x.first x.last x.any t=if (DnS.AB x.attr t).2=0 then
  (if x.kind=4 then FiS.CC (FiS.Aq sy x.first) (FiS.Aq sy x.last) (x.any.map (FiS.Aq sy)) (DnS.AB x.attr t).1
  else if x.kind=3\/sy=5 then (DnS.AB x.attr t).1==(DnS.AB x.attr x.value).1
  else if x.kind=8 then Kt x.attr t x.value
  else decide (x.kind=5/\0<=Ju x.attr t x.value\/x.kind=6/\Ju x.attr t x.value<=0)) else false):=hZ9 (by unfold FiS.FK;rw [D5])
 have C1:Hid (∀s W,sy=1->Dq n W v x->s.length<=20000->Env W->Calls Tryz.prog 187 #[v,.string ⟨s.toArray⟩,.func (.func 86) #[] #[]] W (CH (FiS.CC (FiS.Aq sy x.first) (FiS.Aq sy x.last) (x.any.map (FiS.Aq sy)) s) W)):=hZ9 (fun s W hs h hl hE=>RZ n x v s sy hs W h B7 hl hE)
 have C0:Hid (∀s W,sy≠1->Dq n W v x->s.length<=20000->Env W->Calls Tryz.prog 187 #[v,.string ⟨s.toArray⟩,.func (.func 188) #[] #[]] W (CH (FiS.CC (FiS.Aq sy x.first) (FiS.Aq sy x.last) (x.any.map (FiS.Aq sy)) s) W)):=hZ9 (fun s W hs h hl hE=>TN n x v s sy hs W h B7 hl hE)
 clear D1 D5 B7
 have HH:=hZ9 h
 obtain ⟨a5,c5,a6,c6,hv,E0,E2,D8⟩:=FiV.parts h
 obtain ⟨PC,D4⟩:∃f:List UInt8->Bool,(fun s=>FiS.CC (FiS.Aq sy x.first) (FiS.Aq sy x.last) (x.any.map (FiS.Aq sy)) s)=f:=⟨_,rfl⟩
 have C4:∀s,FiS.CC (FiS.Aq sy x.first) (FiS.Aq sy x.last) (x.any.map (FiS.Aq sy)) s=PC s:=fun s=>congrFun D4 s
 simp only [C4] at B0 C1 C0
 clear D4 C4 E0 D8
 obtain ⟨R,hR⟩:∃r,FiS.FK x.kind x.attr x.value x.first x.last x.any t=r:=⟨_,rfl⟩
 rw [hR] at B0⊢
 clear hR h
 generalize x.any.length=AL at*
 generalize x.parts.length=PL at*
 generalize x.kind=kd at*
 generalize x.attr=at0 at*
 generalize x.value=vl at*
 generalize x.first=fs at*
 generalize x.last=ls at*
 subst hv
 unfold CH at*
 have A4:=Af w (.cells #[.int .i64 kd,.string ⟨at0.toArray⟩,.string ⟨vl.toArray⟩,.string ⟨fs.toArray⟩,.string ⟨ls.toArray⟩,.slice a5 AL c5,.slice a6 PL c6] 36)
 have B4:=Whole.made w 36 #[.int .i64 kd,.string ⟨at0.toArray⟩,.string ⟨vl.toArray⟩,.string ⟨fs.toArray⟩,.string ⟨ls.toArray⟩,.slice a5 AL c5,.slice a6 PL c6]
 obtain ⟨q0,q1,q2,q3,q4,q5,q6⟩:=B4.seven
 obtain ⟨D9,E3⟩:=hA
 have D0:=fun W hE=>Gj at0 t (by omega) ht W hE
 have B5:=fun W hE=>Gj at0 vl (by omega) (by omega) W hE
 have D6:=FiS.Aaa at0 t
 unfold BM at D0 B5
 have B3:=hE.below A4
 generalize DnS.AB at0 t=X at*
 obtain ⟨X1,X2⟩:=X
 simp only at D0 D6 B0
 have A0:=D0 _ B3
 clear D0
 by_cases D2:X2=0
 case neg=>
  have A8:Hid (R=false):=hZ9 (by rw [B0.out,if_neg D2])
  have E1:(X2 !=0)=true:=by simpa using D2
  clear B0 C1 C0 B5 HH
  go_enter Tryz.func160,Tryz.ntmps160
  go_wp2_with fail
  refine A0.mono ?_;rintro e w2 ⟨rfl,A1⟩
  have A2:=A4.trans (A1.mono A4.size)
  have A3:=B4.call A1
  have A9:=B3.below A1
  clear A0 q0 q1 q2 q3 q4 q5 q6
  obtain ⟨q0,q1,q2,q3,q4,q5,q6⟩:=A3.seven
  go_wp2_with fail
  go_ret
  exact ⟨by (rw [A8.out]) <;> rfl,A2⟩
 subst D2
 by_cases B2:kd=4
 · subst B2
   have A8:Hid (R=PC X1):=hZ9 (by rw [B0.out];simp)
   clear B0 B5
   by_cases C8:sy=1
   · have HV:=hZ9 (fun W h hE=>C1.out X1 W C8 h (by omega) hE)
     subst C8
     clear C1 C0
     go_enter Tryz.func160,Tryz.ntmps160
     go_wp2_with fail
     refine A0.mono ?_;rintro e w2 ⟨rfl,A1⟩
     have A2:=A4.trans (A1.mono A4.size)
     have A3:=B4.call A1
     have A9:=B3.below A1
     clear A0 q0 q1 q2 q3 q4 q5 q6
     obtain ⟨q0,q1,q2,q3,q4,q5,q6⟩:=A3.seven
     have hp:=HV.out w2 (HH.out.call A2) A9
     clear HV HH
     go_wp2_with fail
     refine hp.mono ?_;rintro e w3 ⟨rfl,A5⟩
     have A7:=A2.trans (A5.mono A2.size)
     clear hp
     go_wp2_with fail
     go_ret
     exact ⟨by (rw [A8.out]) <;> rfl,A7⟩
   · have HV:=hZ9 (fun W h hE=>C0.out X1 W C8 h (by omega) hE)
     have D7:(sy==1)=false:=by simpa using C8
     clear C1 C0
     go_enter Tryz.func160,Tryz.ntmps160
     go_wp2_with fail
     refine A0.mono ?_;rintro e w2 ⟨rfl,A1⟩
     have A2:=A4.trans (A1.mono A4.size)
     have A3:=B4.call A1
     have A9:=B3.below A1
     clear A0 q0 q1 q2 q3 q4 q5 q6
     obtain ⟨q0,q1,q2,q3,q4,q5,q6⟩:=A3.seven
     have hp:=HV.out w2 (HH.out.call A2) A9
     clear HV HH
     go_wp2_with fail
     refine hp.mono ?_;rintro e w3 ⟨rfl,A5⟩
     have A7:=A2.trans (A5.mono A2.size)
     clear hp
     go_wp2_with fail
     go_ret
     exact ⟨by (rw [A8.out]) <;> rfl,A7⟩
 have k4:(kd==4)=false:=by simpa using B2
 clear C1 C0 HH
 by_cases h35:kd=3\/sy=5
 · have A8:Hid (R=(X1==(DnS.AB at0 vl).1)):=hZ9 (by rw [B0.out,if_pos rfl,if_neg B2,if_pos h35])
   have hd:(kd==3)=true\/((kd==3)=false/\(sy==5)=true):=by
    by_cases h3:kd=3
    · exact .inl (by simpa using h3)
    · exact .inr ⟨by simpa using h3,by simpa using h35.resolve_left h3⟩
   clear B0 h35 B2
   generalize DnS.AB at0 vl=Y at*
   obtain ⟨Y1,Y2⟩:=Y
   simp only at B5 A8
   rcases hd with k3 | ⟨k3,s5⟩
   · go_enter Tryz.func160,Tryz.ntmps160
     go_wp2_with fail
     refine A0.mono ?_;rintro e w2 ⟨rfl,A1⟩
     have A2:=A4.trans (A1.mono A4.size)
     have A3:=B4.call A1
     have A9:=B3.below A1
     clear A0 q0 q1 q2 q3 q4 q5 q6
     obtain ⟨q0,q1,q2,q3,q4,q5,q6⟩:=A3.seven
     have B1:=B5 _ A9
     clear B5
     go_wp2_with fail
     refine B1.mono ?_;rintro e w3 ⟨rfl,A5⟩
     have A7:=A2.trans (A5.mono A2.size)
     clear B1 q0 q1 q2 q3 q4 q5 q6
     go_wp2_with fail
     go_ret
     exact ⟨by (rw [A8.out]) <;> rfl,A7⟩
   · go_enter Tryz.func160,Tryz.ntmps160
     go_wp2_with fail
     refine A0.mono ?_;rintro e w2 ⟨rfl,A1⟩
     have A2:=A4.trans (A1.mono A4.size)
     have A3:=B4.call A1
     have A9:=B3.below A1
     clear A0 q0 q1 q2 q3 q4 q5 q6
     obtain ⟨q0,q1,q2,q3,q4,q5,q6⟩:=A3.seven
     have B1:=B5 _ A9
     clear B5
     go_wp2_with fail
     refine B1.mono ?_;rintro e w3 ⟨rfl,A5⟩
     have A7:=A2.trans (A5.mono A2.size)
     clear B1 q0 q1 q2 q3 q4 q5 q6
     go_wp2_with fail
     go_ret
     exact ⟨by (rw [A8.out]) <;> rfl,A7⟩
 have k3:(kd==3)=false:=by simpa using fun h=>h35 (.inl h)
 have s5:(sy==5)=false:=by simpa using fun h=>h35 (.inr h)
 clear B5
 by_cases C3:kd=8
 · have A8:Hid (R=Kt at0 t vl):=hZ9 (by rw [B0.out,if_pos rfl,if_neg B2,if_neg h35,if_pos C3])
   have D3:∀W,Env W->Calls Tryz.prog 189 #[.string ⟨at0.toArray⟩,.string ⟨t.toArray⟩,.string ⟨vl.toArray⟩] W (Eh at0 t vl W):=fun W hE=>AeH ⟨at0.toArray⟩ ⟨t.toArray⟩ ⟨vl.toArray⟩ (by rw [Ef];omega) (by rw [Ef];omega) (by rw [Ef];omega) W hE
   unfold Eh at D3
   subst C3
   clear B0 h35 B2
   generalize Kt at0 t vl=NB at*
   generalize Dp at0 t vl=EB at*
   go_enter Tryz.func160,Tryz.ntmps160
   go_wp2_with fail
   refine A0.mono ?_;rintro e w2 ⟨rfl,A1⟩
   have A2:=A4.trans (A1.mono A4.size)
   have A3:=B4.call A1
   have A9:=B3.below A1
   clear A0 q0 q1 q2 q3 q4 q5 q6
   obtain ⟨q0,q1,q2,q3,q4,q5,q6⟩:=A3.seven
   have C6:=D3 _ A9
   clear D3
   go_wp2_with fail
   refine C6.mono ?_;rintro e w3 ⟨rfl,A5⟩
   have A7:=A2.trans (A5.mono A2.size)
   clear C6 q0 q1 q2 q3 q4 q5 q6
   go_wp2_with fail
   go_ret
   exact ⟨by (rw [A8.out]) <;> rfl,A7⟩
 have k8:(kd==8)=false:=by simpa using C3
 have A8:Hid (R=decide (kd=5/\0<=Ju at0 t vl\/kd=6/\Ju at0 t vl<=0)):=hZ9 (by rw [B0.out,if_pos rfl,if_neg B2,if_neg h35,if_neg C3])
 have B9:∀W,Env W->Calls Tryz.prog 190 #[.string ⟨at0.toArray⟩,.string ⟨t.toArray⟩,.string ⟨vl.toArray⟩] W (EL at0 t vl W):=fun W hE=>RY ⟨at0.toArray⟩ ⟨t.toArray⟩ ⟨vl.toArray⟩ (by rw [Ef];omega) (by rw [Ef];omega) (by rw [Ef];omega) W hE
 unfold EL at B9
 clear B0 h35 C3
 generalize Ju at0 t vl=CB at*
 generalize Dp at0 t vl=EB at*
 by_cases C7:kd=5
 · have B8:Hid (R=decide (0<=CB)):=hZ9 (by rw [A8.out];exact decide_eq_decide.2 ⟨fun h=>by omega,fun h=>.inl ⟨C7,h⟩⟩)
   subst C7
   clear A8 B2
   go_enter Tryz.func160,Tryz.ntmps160
   go_wp2_with fail
   refine A0.mono ?_;rintro e w2 ⟨rfl,A1⟩
   have A2:=A4.trans (A1.mono A4.size)
   have A3:=B4.call A1
   have A9:=B3.below A1
   clear A0 q0 q1 q2 q3 q4 q5 q6
   obtain ⟨q0,q1,q2,q3,q4,q5,q6⟩:=A3.seven
   have A6:=B9 _ A9
   clear B9
   go_wp2_with fail
   refine A6.mono ?_;rintro e w3 ⟨rfl,A5⟩
   have A7:=A2.trans (A5.mono A2.size)
   have C2:=A3.call A5
   clear A6 q0 q1 q2 q3 q4 q5 q6
   obtain ⟨q0,q1,q2,q3,q4,q5,q6⟩:=C2.seven
   by_cases C5:0<=CB
   · have B6:decide (0<=CB)=true:=decide_eq_true C5
     go_wp2_with fail
     go_ret
     exact ⟨by (rw [B8.out,B6]) <;> rfl,A7⟩
   · have B6:decide (0<=CB)=false:=decide_eq_false C5
     go_wp2_with fail
     go_ret
     exact ⟨by (rw [B8.out,B6]) <;> rfl,A7⟩
 have k5:(kd==5)=false:=by simpa using C7
 by_cases C9:kd=6
 · have B8:Hid (R=decide (CB<=0)):=hZ9 (by rw [A8.out];exact decide_eq_decide.2 ⟨fun h=>by omega,fun h=>.inr ⟨C9,h⟩⟩)
   subst C9
   clear A8 B2 C7
   go_enter Tryz.func160,Tryz.ntmps160
   go_wp2_with fail
   refine A0.mono ?_;rintro e w2 ⟨rfl,A1⟩
   have A2:=A4.trans (A1.mono A4.size)
   have A3:=B4.call A1
   have A9:=B3.below A1
   clear A0 q0 q1 q2 q3 q4 q5 q6
   obtain ⟨q0,q1,q2,q3,q4,q5,q6⟩:=A3.seven
   have A6:=B9 _ A9
   clear B9
   go_wp2_with fail
   refine A6.mono ?_;rintro e w3 ⟨rfl,A5⟩
   have A7:=A2.trans (A5.mono A2.size)
   have C2:=A3.call A5
   clear A6 q0 q1 q2 q3 q4 q5 q6
   obtain ⟨q0,q1,q2,q3,q4,q5,q6⟩:=C2.seven
   by_cases C5:CB<=0
   · have B6:decide (CB<=0)=true:=decide_eq_true C5
     go_wp2_with fail
     go_ret
     exact ⟨by (rw [B8.out,B6]) <;> rfl,A7⟩
   · have B6:decide (CB<=0)=false:=decide_eq_false C5
     go_wp2_with fail
     go_ret
     exact ⟨by (rw [B8.out,B6]) <;> rfl,A7⟩
 have k6:(kd==6)=false:=by simpa using C9
 have B8:Hid (R=false):=hZ9 (by rw [A8.out];exact decide_eq_false (by omega))
 clear A8 B2 C7 C9
 go_enter Tryz.func160,Tryz.ntmps160
 go_wp2_with fail
 refine A0.mono ?_;rintro e w2 ⟨rfl,A1⟩
 have A2:=A4.trans (A1.mono A4.size)
 have A3:=B4.call A1
 have A9:=B3.below A1
 clear A0 q0 q1 q2 q3 q4 q5 q6
 obtain ⟨q0,q1,q2,q3,q4,q5,q6⟩:=A3.seven
 have A6:=B9 _ A9
 clear B9
 go_wp2_with fail
 refine A6.mono ?_;rintro e w3 ⟨rfl,A5⟩
 have A7:=A2.trans (A5.mono A2.size)
 have C2:=A3.call A5
 clear A6 q0 q1 q2 q3 q4 q5 q6
 obtain ⟨q0,q1,q2,q3,q4,q5,q6⟩:=C2.seven
 go_wp2_with fail
 go_ret
 exact ⟨by (rw [B8.out]) <;> rfl,A7⟩
end Go.Proofs.YtgngjfjaelgaeaaGreatDoor
