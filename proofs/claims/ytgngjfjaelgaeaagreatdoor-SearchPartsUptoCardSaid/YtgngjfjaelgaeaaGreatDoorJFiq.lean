/- The walks of the program's pieces and value of a filter. Conditions: as stated. -/
import Derived.Test.YtgngjfjaelgaeaaGreatDoorJDnv
set_option maxRecDepth 100000
set_option maxHeartbeats 8000000
namespace Go.Proofs.YtgngjfjaelgaeaaGreatDoor
open Go.Proofs.Tryz
namespace FiS
theorem RD (a:Int) (p:List UInt8):(Au a p).length=p.length:=by
 unfold Au;split
 · exact RuS.lower_length p
 · rfl
theorem Me {f l s:List UInt8} {any:List (List UInt8)} (h:Lib.hasPrefix s f=false):CS f l any s=false:=by unfold CS KI;rw [h,aG (by simp)]
theorem MA {f l s:List UInt8} {any:List (List UInt8)} (h:Lib.hasPrefix s f=true) (h2:Lib.hasSuffix (s.drop f.length) l=false):CS f l any s=false:=by unfold CS KI;rw [h,aP rfl,h2,aG (by simp)]
theorem PR {f l s:List UInt8} {any:List (List UInt8)} (h:Lib.hasPrefix s f=true) (h2:Lib.hasSuffix (s.drop f.length) l=true):CS f l any s=GY any ((s.drop f.length).take ((s.drop f.length).length - l.length)):=by unfold CS KI;rw [h,aP rfl,h2,aP rfl]
theorem AaK (a x:List UInt8):(DnS.AG a x).1.length<=1000:=by
 unfold DnS.AG;split
 · split
   · simp
   · split
     · exact DnS.Hw x
     · simp
 · exact aY (RuS.normal_len a x) (by decide)
end FiS
open Go.RowKit
open FiS (Fi)
attribute [local go_sem ↓] Go.wp_at_zero Go.wp_at_succ
theorem AaL (s:ByteArray) (w:World):Calls prog 188 #[.string s] w fun e w'=>e=.returned (.string s)/\w=w':=by go_enter func188,ntmps188;go_wp2_with fail;go_ret;exact ⟨rfl,rfl⟩
theorem Tq (n:Nat) (x:Fi) (v:Value) (s:List UInt8) (a:Int) (C4:a=1) (w:World) (h:Dh n w v x) (B8:FiS.wdF 20000 x) (hs:s.length<=20000) (hE:Env w):Calls prog 187 #[v,.string ⟨s.toArray⟩,.func (.func 86) #[] #[]] w (BB (FiS.CS (FiS.Au a x.first) (FiS.Au a x.last) (x.any.map (FiS.Au a)) s) w):=by
 have hG:∀(p:List UInt8) (W:World),p.length<=20000->Calls prog 86 #[.string ⟨p.toArray⟩] W fun e w'=>e=.returned (.string ⟨(FiS.Au a p).toArray⟩)/\Below W.heap.size W w':=fun p W hp=>by
  have h:=lower_c ⟨p.toArray⟩ (by rw [Ez];omega) W;unfold Ce at h;have e:FiS.Au a p=RuS.lower p:=by unfold FiS.Au;rw [aP C4]
  rw [e];exact h
 have HG:=hZ9 hG;have B:Hid (∀p,(FiS.Au a p).length=p.length):=hZ9 (fun p=>FiS.RD a p);clear hG;obtain ⟨kd,A8,vl,fs,ls,b,ps⟩:=x;obtain ⟨a5,c5,a6,c6,hv,G,A1,A6⟩:=FiV.parts h;have hv:v=.agg #[.int .i64 kd,.string ⟨A8.toArray⟩,.string ⟨vl.toArray⟩,.string ⟨fs.toArray⟩,.string ⟨ls.toArray⟩,.slice a5 b.length c5,.slice a6 ps.length c6]:=hv;subst hv;have G:Ah w (.slice a5 b.length c5) b:=G;have A1:ps.length<=c6:=A1;have A6:BC n (fun _=>True) w (.slice a6 ps.length c6) ps:=A6;rw [FiS.wdF] at B8;obtain ⟨⟨D6,D9,D3,D2⟩,B5,I,_,_⟩:=B8;have t:=hZ9 (fun j (hj:j<b.length)=>I b[j] (aZ hj));clear I;obtain ⟨AL,A⟩:∃m,b.length=m:=⟨_,rfl⟩
 obtain ⟨PL,A5⟩:∃m,ps.length=m:=⟨_,rfl⟩
 have D1:=hZ9 A;have C7:=hZ9 A5;rw [A] at G;rw [A5] at A1 A6
 try rw [A]
 try rw [A5]
 have z:=Af w (.cells #[.int .i64 kd,.string ⟨A8.toArray⟩,.string ⟨vl.toArray⟩,.string ⟨fs.toArray⟩,.string ⟨ls.toArray⟩,.slice a5 AL c5,.slice a6 PL c6] 36);have B0:=Whole.made w 36 #[.int .i64 kd,.string ⟨A8.toArray⟩,.string ⟨vl.toArray⟩,.string ⟨fs.toArray⟩,.string ⟨ls.toArray⟩,.slice a5 AL c5,.slice a6 PL c6];obtain ⟨q0,Y,P,q3,q4,q5,q6⟩:=B0.seven;rw [A] at B5;obtain ⟨a',c',e,C6,B1⟩:=Ad.at (G.strsP (fun _=>True) (fun _ _=>trivial));injection e with e1 e2 e3;rw [<-e1] at B1;have U:=hZ9 B1;have N:=hZ9 (fun j (hj:j<b.length)=>av hj);have f:Hid (b.drop AL=[]):=hZ9 (by rw [<-A];exact dH);show Calls _ _ _ _ (BB (FiS.CS (FiS.Au a fs) (FiS.Au a ls) (b.map (FiS.Au a)) s) w)
 clear B1 G e1 e2 e3 C6 h A6 A A5 C7 A1;have F:=fun W=>HG.out fs W D3;have T:=fun W=>HG.out ls W D2;have D7:=B.out fs;have D8:=B.out ls;generalize FiS.Au a fs=F1 at*;generalize FiS.Au a ls=L1 at*;have A2:=hZ9 (fun h=>@FiS.Me F1 L1 s (b.map (FiS.Au a)) h);have A3:=hZ9 (fun h h2=>@FiS.MA F1 L1 s (b.map (FiS.Au a)) h h2);have A0:=hZ9 (fun h h2=>@FiS.PR F1 L1 s (b.map (FiS.Au a)) h h2);obtain ⟨R,hR⟩:∃r,FiS.CS F1 L1 (b.map (FiS.Au a)) s=r:=⟨_,rfl⟩
 rw [hR] at A2 A3 A0⊢;clear hR;unfold BB;have y:∀W,Calls prog 210 #[.string ⟨s.toArray⟩,.string ⟨F1.toArray⟩] W fun e w'=>e=.returned (.tuple #[.string ⟨(Lib.trimPrefix s F1).toArray⟩,.bool (Lib.hasPrefix s F1)])/\w'=W:=fun W=>strings_CutPrefix ⟨s.toArray⟩ ⟨F1.toArray⟩ W;have u:Hid (Lib.hasPrefix s F1=true->Lib.trimPrefix s F1=s.drop F1.length):=hZ9 (fun h=>by unfold Lib.trimPrefix;rw [aP h]);have E0:(s.drop F1.length).length<=20000:=by rw [bI];omega
 cases hp:Lib.hasPrefix s F1 with
 | false=>have B4:Hid (R=false):=hZ9 (A2.out hp);rw [hp] at y;clear hp A2 A3 A0 u HG B t U N f T;go_enter func187,ntmps187;go_wp2_with fail;refine (F _).mono ?_;rintro e w2 ⟨rfl,c⟩;have l:=z.trans (c.mono z.size);clear F q0 Y P q3 q4 q5 q6;go_wp2_with fail;refine (y _).mono ?_;rintro e w3 ⟨rfl,rfl⟩;go_wp2_with fail;go_ret;exact ⟨by (rw [B4.out]) <;> rfl,l⟩
 | true=>
  rw [hp,u.out hp] at y;have H:=hZ9 (fun h2=>A3.out hp h2);have O:=hZ9 (fun h2=>A0.out hp h2);clear hp A2 A3 A0 u;generalize s.drop F1.length=s1 at*;have J:∀W,Calls prog 206 #[.string ⟨s1.toArray⟩,.string ⟨L1.toArray⟩] W fun e w'=>e=.returned (.tuple #[.string ⟨(Lib.trimSuffix s1 L1).toArray⟩,.bool (Lib.hasSuffix s1 L1)])/\w'=W:=fun W=>strings_CutSuffix ⟨s1.toArray⟩ ⟨L1.toArray⟩ W (by rw [Ez];omega);have u:Hid (Lib.hasSuffix s1 L1=true->Lib.trimSuffix s1 L1=s1.take (s1.length - L1.length)):=hZ9 (fun h=>by unfold Lib.trimSuffix;rw [aP h]);have B7:(s1.take (s1.length - L1.length)).length<=20000:=by rw [au];omega
  cases hp:Lib.hasSuffix s1 L1 with
  | false=>have B4:Hid (R=false):=hZ9 (H.out hp);rw [hp] at J;clear hp H O u HG B t U N f;go_enter func187,ntmps187;go_wp2_with fail;refine (F _).mono ?_;rintro e w2 ⟨rfl,c⟩;have l:=z.trans (c.mono z.size);have L:=B0.call c;clear F q0 Y P q3 q4 q5 q6;obtain ⟨q0,Y,P,q3,q4,q5,q6⟩:=L.seven;go_wp2_with fail;refine (y _).mono ?_;rintro e w3 ⟨rfl,rfl⟩;go_wp2_with fail;refine (T _).mono ?_;rintro e w4 ⟨rfl,M⟩;have A7:=l.trans (M.mono l.size);clear T q0 Y P q3 q4 q5 q6;go_wp2_with fail;refine (J _).mono ?_;rintro e w5 ⟨rfl,rfl⟩;go_wp2_with fail;go_ret;exact ⟨by (rw [B4.out]) <;> rfl,A7⟩
  | true=>
   rw [hp,u.out hp] at J;have B9:=hZ9 (O.out hp);clear hp H O u;generalize s1.take (s1.length - L1.length)=s2 at*;go_enter func187,ntmps187;go_wp2_with fail;refine (F _).mono ?_;rintro e w2 ⟨rfl,c⟩;have l:=z.trans (c.mono z.size);have L:=B0.call c;clear F q0 Y P q3 q4 q5 q6;obtain ⟨q0,Y,P,q3,q4,q5,q6⟩:=L.seven;go_wp2_with fail;refine (y _).mono ?_;rintro e w3 ⟨rfl,rfl⟩;go_wp2_with fail;refine (T _).mono ?_;rintro e w4 ⟨rfl,M⟩;have A7:=l.trans (M.mono l.size);have C0:=L.call M;clear T q0 Y P q3 q4 q5 q6 L c M l;obtain ⟨q0,Y,P,q3,q4,q5,q6⟩:=C0.seven;go_wp2_with fail;refine (J _).mono ?_;rintro e w5 ⟨rfl,rfl⟩;clear y J;go_wp2_with fail;clear q0 Y P q3 q4 q5 q6 C0;go_loopw [1,35] (fun sv i wr=>∃(j:Nat) (q:List UInt8),j<=AL/\i=.int .i64 j/\sv=.string ⟨q.toArray⟩/\q.length<=20000/\Hid (R=FiS.GY ((b.drop j).map (FiS.Au a)) q)/\Below w.heap.size w wr) (fun _ i _=>AL - (intOf i).toNat)
   case atStart=>exact ⟨0,s2,aR _,rfl,rfl,B7,hZ9 (by rw [B9.out,bQ]),A7⟩
   case round=>
    obtain ⟨j,q,hj,rfl,rfl,E3,HQ,hb⟩:=hrel;clear A7 B9;by_cases C8:j<AL
    · have Q:j<b.length:=by rw [D1.out];exact C8
      have C2:=hZ9 (N.out j Q);have B6:=t.out j Q;obtain ⟨g,o,D5,hg,_,hra⟩:=U.out j Q;have C9:wr.cell? ⟨g,o+j,none⟩=some (Ac b[j]):=by have:w.cell? ⟨g,o+j*1,none⟩=some (Ac b[j]):=hra;rw [cK] at this;exact Ab this hb
      clear hra U N t f;subst D5;generalize b[j]=p at*;unfold Ac at C9;have A4:=HG.out p wr B6;have C3:=B.out p;have Z:Hid (R=if 0<=Lib.index q (FiS.Au a p) then FiS.GY ((b.drop (j+1)).map (FiS.Au a)) (q.drop ((Lib.index q (FiS.Au a p)).toNat+(FiS.Au a p).length)) else false):=hZ9 (by rw [HQ.out,C2.out,cz,FiS.GY]);clear HQ C2;generalize FiS.Au a p=P1 at*;have C1:=hE.below hb;obtain ⟨m,hm⟩:=C1.maxLen;have E2:(0:Int)<=(j:Int):=by omega
      have E1:(j:Int)<(AL:Int):=by omega
      have E:Hid (∀W,Below wr.heap.size wr W->Calls prog 168 #[.string ⟨q.toArray⟩,.string ⟨P1.toArray⟩] W fun e w'=>e=.returned (.tuple #[.string ⟨(Lib.cut q P1).1.toArray⟩,.string ⟨(Lib.cut q P1).2.1.toArray⟩,.bool (Lib.cut q P1).2.2])/\Below W.heap.size W w'):=hZ9 (fun W D4=>by
       obtain ⟨m,hm⟩:=(C1.below D4).maxLen;refine (strings_Cut ⟨q.toArray⟩ ⟨P1.toArray⟩ m W (by rw [Ez];omega) hm).mono ?_;rintro e w' ⟨rfl,k,rfl⟩;exact ⟨rfl,below_drewN W k⟩)
      have B3:∀k,(q.drop k).length<=20000:=fun k=>by rw [bI];omega
      clear hm;by_cases C:0<=Lib.index q P1
      · have V:Hid (R=FiS.GY ((b.drop (j+1)).map (FiS.Au a)) (q.drop ((Lib.index q P1).toNat+P1.length))):=hZ9 (by rw [Z.out,aP C]);have X:Lib.cut q P1=(q.take (Lib.index q P1).toNat,q.drop ((Lib.index q P1).toNat+P1.length),true):=by unfold Lib.cut;rw [aP C]
        rw [X] at E;have C5:=B3 ((Lib.index q P1).toNat+P1.length);clear X B3 Z C;generalize q.drop ((Lib.index q P1).toNat+P1.length)=P at*;generalize q.take (Lib.index q P1).toNat=Y at*;go_wp2_with fail;refine A4.mono ?_;rintro e w6 ⟨rfl,K⟩;have d:=E.out w6 K;have S:=hb.trans (K.mono hb.size);clear A4 E;go_wp2_with fail;refine d.mono ?_;rintro e w7 ⟨rfl,B2⟩;have A9:=S.trans (B2.mono S.size);clear d;go_wp2_with fail;go_roundw
        case rel=>exact ⟨j+1,P,by omega,by go_num,rfl,C5,V,A9⟩
        case measure=>simp [intOf];omega
      · have V:Hid (R=false):=hZ9 (by rw [Z.out,aG C]);have X:Lib.cut q P1=(q,[],false):=by unfold Lib.cut;rw [aG C]
        rw [X] at E;clear X B3 Z C;go_wp2_with fail;refine A4.mono ?_;rintro e w6 ⟨rfl,K⟩;have d:=E.out w6 K;have S:=hb.trans (K.mono hb.size);clear A4 E;go_wp2_with fail;refine d.mono ?_;rintro e w7 ⟨rfl,B2⟩;have A9:=S.trans (B2.mono S.size);clear d;go_wp2_with fail;go_ret;exact ⟨by (rw [V.out]) <;> rfl,A9⟩
    · have D0:j=AL:=by omega
      subst D0;have V:Hid (R=true):=hZ9 (by rw [HQ.out,f.out];rfl);clear U N t f HQ HG B;go_wp2_with fail;go_ret;exact ⟨by (rw [V.out]) <;> rfl,hb⟩
theorem UJ (n:Nat) (x:Fi) (v:Value) (s:List UInt8) (a:Int) (C4:a≠1) (w:World) (h:Dh n w v x) (B8:FiS.wdF 20000 x) (hs:s.length<=20000) (hE:Env w):Calls prog 187 #[v,.string ⟨s.toArray⟩,.func (.func 188) #[] #[]] w (BB (FiS.CS (FiS.Au a x.first) (FiS.Au a x.last) (x.any.map (FiS.Au a)) s) w):=by
 have hG:∀(p:List UInt8) (W:World),p.length<=20000->Calls prog 188 #[.string ⟨p.toArray⟩] W fun e w'=>e=.returned (.string ⟨(FiS.Au a p).toArray⟩)/\Below W.heap.size W w':=fun p W hp=>by
  have e:FiS.Au a p=p:=by unfold FiS.Au;rw [aG C4]
  rw [e];refine (AaL ⟨p.toArray⟩ W).mono ?_;rintro e w' ⟨rfl,rfl⟩;exact ⟨rfl,Below.refl _ _⟩
 have HG:=hZ9 hG;have B:Hid (∀p,(FiS.Au a p).length=p.length):=hZ9 (fun p=>FiS.RD a p);clear hG;obtain ⟨kd,A8,vl,fs,ls,b,ps⟩:=x;obtain ⟨a5,c5,a6,c6,hv,G,A1,A6⟩:=FiV.parts h;have hv:v=.agg #[.int .i64 kd,.string ⟨A8.toArray⟩,.string ⟨vl.toArray⟩,.string ⟨fs.toArray⟩,.string ⟨ls.toArray⟩,.slice a5 b.length c5,.slice a6 ps.length c6]:=hv;subst hv;have G:Ah w (.slice a5 b.length c5) b:=G;have A1:ps.length<=c6:=A1;have A6:BC n (fun _=>True) w (.slice a6 ps.length c6) ps:=A6;rw [FiS.wdF] at B8;obtain ⟨⟨D6,D9,D3,D2⟩,B5,I,_,_⟩:=B8;have t:=hZ9 (fun j (hj:j<b.length)=>I b[j] (aZ hj));clear I;obtain ⟨AL,A⟩:∃m,b.length=m:=⟨_,rfl⟩
 obtain ⟨PL,A5⟩:∃m,ps.length=m:=⟨_,rfl⟩
 have D1:=hZ9 A;have C7:=hZ9 A5;rw [A] at G;rw [A5] at A1 A6
 try rw [A]
 try rw [A5]
 have z:=Af w (.cells #[.int .i64 kd,.string ⟨A8.toArray⟩,.string ⟨vl.toArray⟩,.string ⟨fs.toArray⟩,.string ⟨ls.toArray⟩,.slice a5 AL c5,.slice a6 PL c6] 36);have B0:=Whole.made w 36 #[.int .i64 kd,.string ⟨A8.toArray⟩,.string ⟨vl.toArray⟩,.string ⟨fs.toArray⟩,.string ⟨ls.toArray⟩,.slice a5 AL c5,.slice a6 PL c6];obtain ⟨q0,Y,P,q3,q4,q5,q6⟩:=B0.seven;rw [A] at B5;obtain ⟨a',c',e,C6,B1⟩:=Ad.at (G.strsP (fun _=>True) (fun _ _=>trivial));injection e with e1 e2 e3;rw [<-e1] at B1;have U:=hZ9 B1;have N:=hZ9 (fun j (hj:j<b.length)=>av hj);have f:Hid (b.drop AL=[]):=hZ9 (by rw [<-A];exact dH);show Calls _ _ _ _ (BB (FiS.CS (FiS.Au a fs) (FiS.Au a ls) (b.map (FiS.Au a)) s) w)
 clear B1 G e1 e2 e3 C6 h A6 A A5 C7 A1;have F:=fun W=>HG.out fs W D3;have T:=fun W=>HG.out ls W D2;have D7:=B.out fs;have D8:=B.out ls;generalize FiS.Au a fs=F1 at*;generalize FiS.Au a ls=L1 at*;have A2:=hZ9 (fun h=>@FiS.Me F1 L1 s (b.map (FiS.Au a)) h);have A3:=hZ9 (fun h h2=>@FiS.MA F1 L1 s (b.map (FiS.Au a)) h h2);have A0:=hZ9 (fun h h2=>@FiS.PR F1 L1 s (b.map (FiS.Au a)) h h2);obtain ⟨R,hR⟩:∃r,FiS.CS F1 L1 (b.map (FiS.Au a)) s=r:=⟨_,rfl⟩
 rw [hR] at A2 A3 A0⊢;clear hR;unfold BB;have y:∀W,Calls prog 210 #[.string ⟨s.toArray⟩,.string ⟨F1.toArray⟩] W fun e w'=>e=.returned (.tuple #[.string ⟨(Lib.trimPrefix s F1).toArray⟩,.bool (Lib.hasPrefix s F1)])/\w'=W:=fun W=>strings_CutPrefix ⟨s.toArray⟩ ⟨F1.toArray⟩ W;have u:Hid (Lib.hasPrefix s F1=true->Lib.trimPrefix s F1=s.drop F1.length):=hZ9 (fun h=>by unfold Lib.trimPrefix;rw [aP h]);have E0:(s.drop F1.length).length<=20000:=by rw [bI];omega
 cases hp:Lib.hasPrefix s F1 with
 | false=>have B4:Hid (R=false):=hZ9 (A2.out hp);rw [hp] at y;clear hp A2 A3 A0 u HG B t U N f T;go_enter func187,ntmps187;go_wp2_with fail;refine (F _).mono ?_;rintro e w2 ⟨rfl,c⟩;have l:=z.trans (c.mono z.size);clear F q0 Y P q3 q4 q5 q6;go_wp2_with fail;refine (y _).mono ?_;rintro e w3 ⟨rfl,rfl⟩;go_wp2_with fail;go_ret;exact ⟨by (rw [B4.out]) <;> rfl,l⟩
 | true=>
  rw [hp,u.out hp] at y;have H:=hZ9 (fun h2=>A3.out hp h2);have O:=hZ9 (fun h2=>A0.out hp h2);clear hp A2 A3 A0 u;generalize s.drop F1.length=s1 at*;have J:∀W,Calls prog 206 #[.string ⟨s1.toArray⟩,.string ⟨L1.toArray⟩] W fun e w'=>e=.returned (.tuple #[.string ⟨(Lib.trimSuffix s1 L1).toArray⟩,.bool (Lib.hasSuffix s1 L1)])/\w'=W:=fun W=>strings_CutSuffix ⟨s1.toArray⟩ ⟨L1.toArray⟩ W (by rw [Ez];omega);have u:Hid (Lib.hasSuffix s1 L1=true->Lib.trimSuffix s1 L1=s1.take (s1.length - L1.length)):=hZ9 (fun h=>by unfold Lib.trimSuffix;rw [aP h]);have B7:(s1.take (s1.length - L1.length)).length<=20000:=by rw [au];omega
  cases hp:Lib.hasSuffix s1 L1 with
  | false=>have B4:Hid (R=false):=hZ9 (H.out hp);rw [hp] at J;clear hp H O u HG B t U N f;go_enter func187,ntmps187;go_wp2_with fail;refine (F _).mono ?_;rintro e w2 ⟨rfl,c⟩;have l:=z.trans (c.mono z.size);have L:=B0.call c;clear F q0 Y P q3 q4 q5 q6;obtain ⟨q0,Y,P,q3,q4,q5,q6⟩:=L.seven;go_wp2_with fail;refine (y _).mono ?_;rintro e w3 ⟨rfl,rfl⟩;go_wp2_with fail;refine (T _).mono ?_;rintro e w4 ⟨rfl,M⟩;have A7:=l.trans (M.mono l.size);clear T q0 Y P q3 q4 q5 q6;go_wp2_with fail;refine (J _).mono ?_;rintro e w5 ⟨rfl,rfl⟩;go_wp2_with fail;go_ret;exact ⟨by (rw [B4.out]) <;> rfl,A7⟩
  | true=>
   rw [hp,u.out hp] at J;have B9:=hZ9 (O.out hp);clear hp H O u;generalize s1.take (s1.length - L1.length)=s2 at*;go_enter func187,ntmps187;go_wp2_with fail;refine (F _).mono ?_;rintro e w2 ⟨rfl,c⟩;have l:=z.trans (c.mono z.size);have L:=B0.call c;clear F q0 Y P q3 q4 q5 q6;obtain ⟨q0,Y,P,q3,q4,q5,q6⟩:=L.seven;go_wp2_with fail;refine (y _).mono ?_;rintro e w3 ⟨rfl,rfl⟩;go_wp2_with fail;refine (T _).mono ?_;rintro e w4 ⟨rfl,M⟩;have A7:=l.trans (M.mono l.size);have C0:=L.call M;clear T q0 Y P q3 q4 q5 q6 L c M l;obtain ⟨q0,Y,P,q3,q4,q5,q6⟩:=C0.seven;go_wp2_with fail;refine (J _).mono ?_;rintro e w5 ⟨rfl,rfl⟩;clear y J;go_wp2_with fail;clear q0 Y P q3 q4 q5 q6 C0;go_loopw [1,35] (fun sv i wr=>∃(j:Nat) (q:List UInt8),j<=AL/\i=.int .i64 j/\sv=.string ⟨q.toArray⟩/\q.length<=20000/\Hid (R=FiS.GY ((b.drop j).map (FiS.Au a)) q)/\Below w.heap.size w wr) (fun _ i _=>AL - (intOf i).toNat)
   case atStart=>exact ⟨0,s2,aR _,rfl,rfl,B7,hZ9 (by rw [B9.out,bQ]),A7⟩
   case round=>
    obtain ⟨j,q,hj,rfl,rfl,E3,HQ,hb⟩:=hrel;clear A7 B9;by_cases C8:j<AL
    · have Q:j<b.length:=by rw [D1.out];exact C8
      have C2:=hZ9 (N.out j Q);have B6:=t.out j Q;obtain ⟨g,o,D5,hg,_,hra⟩:=U.out j Q;have C9:wr.cell? ⟨g,o+j,none⟩=some (Ac b[j]):=by have:w.cell? ⟨g,o+j*1,none⟩=some (Ac b[j]):=hra;rw [cK] at this;exact Ab this hb
      clear hra U N t f;subst D5;generalize b[j]=p at*;unfold Ac at C9;have A4:=HG.out p wr B6;have C3:=B.out p;have Z:Hid (R=if 0<=Lib.index q (FiS.Au a p) then FiS.GY ((b.drop (j+1)).map (FiS.Au a)) (q.drop ((Lib.index q (FiS.Au a p)).toNat+(FiS.Au a p).length)) else false):=hZ9 (by rw [HQ.out,C2.out,cz,FiS.GY]);clear HQ C2;generalize FiS.Au a p=P1 at*;have C1:=hE.below hb;obtain ⟨m,hm⟩:=C1.maxLen;have E2:(0:Int)<=(j:Int):=by omega
      have E1:(j:Int)<(AL:Int):=by omega
      have E:Hid (∀W,Below wr.heap.size wr W->Calls prog 168 #[.string ⟨q.toArray⟩,.string ⟨P1.toArray⟩] W fun e w'=>e=.returned (.tuple #[.string ⟨(Lib.cut q P1).1.toArray⟩,.string ⟨(Lib.cut q P1).2.1.toArray⟩,.bool (Lib.cut q P1).2.2])/\Below W.heap.size W w'):=hZ9 (fun W D4=>by
       obtain ⟨m,hm⟩:=(C1.below D4).maxLen;refine (strings_Cut ⟨q.toArray⟩ ⟨P1.toArray⟩ m W (by rw [Ez];omega) hm).mono ?_;rintro e w' ⟨rfl,k,rfl⟩;exact ⟨rfl,below_drewN W k⟩)
      have B3:∀k,(q.drop k).length<=20000:=fun k=>by rw [bI];omega
      clear hm;by_cases C:0<=Lib.index q P1
      · have V:Hid (R=FiS.GY ((b.drop (j+1)).map (FiS.Au a)) (q.drop ((Lib.index q P1).toNat+P1.length))):=hZ9 (by rw [Z.out,aP C]);have X:Lib.cut q P1=(q.take (Lib.index q P1).toNat,q.drop ((Lib.index q P1).toNat+P1.length),true):=by unfold Lib.cut;rw [aP C]
        rw [X] at E;have C5:=B3 ((Lib.index q P1).toNat+P1.length);clear X B3 Z C;generalize q.drop ((Lib.index q P1).toNat+P1.length)=P at*;generalize q.take (Lib.index q P1).toNat=Y at*;go_wp2_with fail;refine A4.mono ?_;rintro e w6 ⟨rfl,K⟩;have d:=E.out w6 K;have S:=hb.trans (K.mono hb.size);clear A4 E;go_wp2_with fail;refine d.mono ?_;rintro e w7 ⟨rfl,B2⟩;have A9:=S.trans (B2.mono S.size);clear d;go_wp2_with fail;go_roundw
        case rel=>exact ⟨j+1,P,by omega,by go_num,rfl,C5,V,A9⟩
        case measure=>simp [intOf];omega
      · have V:Hid (R=false):=hZ9 (by rw [Z.out,aG C]);have X:Lib.cut q P1=(q,[],false):=by unfold Lib.cut;rw [aG C]
        rw [X] at E;clear X B3 Z C;go_wp2_with fail;refine A4.mono ?_;rintro e w6 ⟨rfl,K⟩;have d:=E.out w6 K;have S:=hb.trans (K.mono hb.size);clear A4 E;go_wp2_with fail;refine d.mono ?_;rintro e w7 ⟨rfl,B2⟩;have A9:=S.trans (B2.mono S.size);clear d;go_wp2_with fail;go_ret;exact ⟨by (rw [V.out]) <;> rfl,A9⟩
    · have D0:j=AL:=by omega
      subst D0;have V:Hid (R=true):=hZ9 (by rw [HQ.out,f.out];rfl);clear U N t f HQ HG B;go_wp2_with fail;go_ret;exact ⟨by (rw [V.out]) <;> rfl,hb⟩
theorem AaM (n:Nat) (x:Fi) (v:Value) (t:List UInt8) (y:Int) (A5:(RuS.typeOf x.attr).2=y) (w:World) (h:Dh n w v x) (J:FiS.wdF 20000 x) (ht:t.length<=1000000) (hE:Env w):Calls prog 160 #[v,.string ⟨t.toArray⟩,.int .i64 y] w (BB (FiS.Gj x.kind x.attr x.value x.first x.last x.any t) w):=by
 have A4:=J;have hA:x.attr.length<=20000/\x.value.length<=20000:=by cases x;rw [FiS.wdF] at J;exact ⟨J.1.1,J.1.2.1⟩
 have z:Hid (FiS.Gj x.kind x.attr x.value x.first x.last x.any t=if (DnS.AG x.attr t).2=0 then
  (if x.kind=4 then FiS.CS (FiS.Au y x.first) (FiS.Au y x.last) (x.any.map (FiS.Au y)) (DnS.AG x.attr t).1
  else if x.kind=3\/y=5 then (DnS.AG x.attr t).1==(DnS.AG x.attr x.value).1
  else if x.kind=8 then KH x.attr t x.value
  else decide (x.kind=5/\0<=JQ x.attr t x.value\/x.kind=6/\JQ x.attr t x.value<=0)) else false):=hZ9 (by unfold FiS.Gj;rw [A5])
 have N:Hid (∀s W,y=1->Dh n W v x->s.length<=20000->Env W->Calls prog 187 #[v,.string ⟨s.toArray⟩,.func (.func 86) #[] #[]] W (BB (FiS.CS (FiS.Au y x.first) (FiS.Au y x.last) (x.any.map (FiS.Au y)) s) W)):=hZ9 (fun s W hs h hl hE=>Tq n x v s y hs W h J hl hE);have O:Hid (∀s W,y≠1->Dh n W v x->s.length<=20000->Env W->Calls prog 187 #[v,.string ⟨s.toArray⟩,.func (.func 188) #[] #[]] W (BB (FiS.CS (FiS.Au y x.first) (FiS.Au y x.last) (x.any.map (FiS.Au y)) s) W)):=hZ9 (fun s W hs h hl hE=>UJ n x v s y hs W h J hl hE);clear A4 A5 J;have HH:=hZ9 h;obtain ⟨a5,c5,a6,c6,hv,A7,B2,A8⟩:=FiV.parts h;obtain ⟨PC,A6⟩:∃f:List UInt8->Bool,(fun s=>FiS.CS (FiS.Au y x.first) (FiS.Au y x.last) (x.any.map (FiS.Au y)) s)=f:=⟨_,rfl⟩
 have A1:∀s,FiS.CS (FiS.Au y x.first) (FiS.Au y x.last) (x.any.map (FiS.Au y)) s=PC s:=fun s=>congrFun A6 s;simp only [A1] at z N O;clear A6 A1 A7 A8;obtain ⟨R,hR⟩:∃r,FiS.Gj x.kind x.attr x.value x.first x.last x.any t=r:=⟨_,rfl⟩
 rw [hR] at z⊢;clear hR h;generalize x.any.length=AL at*;generalize x.parts.length=PL at*;generalize x.kind=kd at*;generalize x.attr=at0 at*;generalize x.value=vl at*;generalize x.first=fs at*;generalize x.last=ls at*;subst hv;unfold BB at*;have g:=Af w (.cells #[.int .i64 kd,.string ⟨at0.toArray⟩,.string ⟨vl.toArray⟩,.string ⟨fs.toArray⟩,.string ⟨ls.toArray⟩,.slice a5 AL c5,.slice a6 PL c6] 36);have E:=Whole.made w 36 #[.int .i64 kd,.string ⟨at0.toArray⟩,.string ⟨vl.toArray⟩,.string ⟨fs.toArray⟩,.string ⟨ls.toArray⟩,.slice a5 AL c5,.slice a6 PL c6];obtain ⟨m,o,A,p,B,u,q⟩:=E.seven;obtain ⟨B0,B4⟩:=hA;have V:=fun W hE=>GM at0 t (by omega) ht W hE;have H:=fun W hE=>GM at0 vl (by omega) (by omega) W hE;have A9:=FiS.AaK at0 t;unfold Cb at V H;have F:=hE.below g;generalize DnS.AG at0 t=X at*;obtain ⟨X1,X2⟩:=X;simp only at V A9 z;have b:=V _ F;clear V;by_cases A3:X2=0
 case neg=>
  have k:Hid (R=false):=hZ9 (by rw [z.out,aG A3]);have B3:(X2 !=0)=true:=by simpa using A3
  clear z N O H HH;go_enter func160,ntmps160;go_wp2_with fail;refine b.mono ?_;rintro e w2 ⟨rfl,a⟩;have c:=g.trans (a.mono g.size);have d:=E.call a;have l:=F.below a;clear b m o A p B u q;obtain ⟨m,o,A,p,B,u,q⟩:=d.seven;go_wp2_with fail;go_ret;exact ⟨by (rw [k.out]) <;> rfl,c⟩
 subst A3;by_cases G:kd=4
 · subst G;have k:Hid (R=PC X1):=hZ9 (by rw [z.out];simp);clear z H;by_cases Z:y=1
   · have HV:=hZ9 (fun W h hE=>N.out X1 W Z h (by omega) hE);subst Z;clear N O;go_enter func160,ntmps160;go_wp2_with fail;refine b.mono ?_;rintro e w2 ⟨rfl,a⟩;have c:=g.trans (a.mono g.size);have d:=E.call a;have l:=F.below a;clear b m o A p B u q;obtain ⟨m,o,A,p,B,u,q⟩:=d.seven;have hp:=HV.out w2 (HH.out.call c) l;clear HV HH;go_wp2_with fail;refine hp.mono ?_;rintro e w3 ⟨rfl,i⟩;have j:=c.trans (i.mono c.size);clear hp;go_wp2_with fail;go_ret;exact ⟨by (rw [k.out]) <;> rfl,j⟩
   · have HV:=hZ9 (fun W h hE=>O.out X1 W Z h (by omega) hE);have B1:(y==1)=false:=by simpa using Z
     clear N O;go_enter func160,ntmps160;go_wp2_with fail;refine b.mono ?_;rintro e w2 ⟨rfl,a⟩;have c:=g.trans (a.mono g.size);have d:=E.call a;have l:=F.below a;clear b m o A p B u q;obtain ⟨m,o,A,p,B,u,q⟩:=d.seven;have hp:=HV.out w2 (HH.out.call c) l;clear HV HH;go_wp2_with fail;refine hp.mono ?_;rintro e w3 ⟨rfl,i⟩;have j:=c.trans (i.mono c.size);clear hp;go_wp2_with fail;go_ret;exact ⟨by (rw [k.out]) <;> rfl,j⟩
 have k4:(kd==4)=false:=by simpa using G
 clear N O HH;by_cases h35:kd=3\/y=5
 · have k:Hid (R=(X1==(DnS.AG at0 vl).1)):=hZ9 (by rw [z.out,aP rfl,aG G,aP h35]);have hd:(kd==3)=true\/((kd==3)=false/\(y==5)=true):=by
    by_cases h3:kd=3
    · exact .inl (by simpa using h3)
    · exact .inr ⟨by simpa using h3,by simpa using h35.resolve_left h3⟩
   clear z h35 G;generalize DnS.AG at0 vl=Y at*;obtain ⟨Y1,Y2⟩:=Y;simp only at H k;rcases hd with k3 | ⟨k3,s5⟩
   · go_enter func160,ntmps160;go_wp2_with fail;refine b.mono ?_;rintro e w2 ⟨rfl,a⟩;have c:=g.trans (a.mono g.size);have d:=E.call a;have l:=F.below a;clear b m o A p B u q;obtain ⟨m,o,A,p,B,u,q⟩:=d.seven;have I:=H _ l;clear H;go_wp2_with fail;refine I.mono ?_;rintro e w3 ⟨rfl,i⟩;have j:=c.trans (i.mono c.size);clear I m o A p B u q;go_wp2_with fail;go_ret;exact ⟨by (rw [k.out]) <;> rfl,j⟩
   · go_enter func160,ntmps160;go_wp2_with fail;refine b.mono ?_;rintro e w2 ⟨rfl,a⟩;have c:=g.trans (a.mono g.size);have d:=E.call a;have l:=F.below a;clear b m o A p B u q;obtain ⟨m,o,A,p,B,u,q⟩:=d.seven;have I:=H _ l;clear H;go_wp2_with fail;refine I.mono ?_;rintro e w3 ⟨rfl,i⟩;have j:=c.trans (i.mono c.size);clear I m o A p B u q;go_wp2_with fail;go_ret;exact ⟨by (rw [k.out]) <;> rfl,j⟩
 have k3:(kd==3)=false:=by simpa using fun h=>h35 (.inl h)
 have s5:(y==5)=false:=by simpa using fun h=>h35 (.inr h)
 clear H;by_cases P:kd=8
 · have k:Hid (R=KH at0 t vl):=hZ9 (by rw [z.out,aP rfl,aG G,aG h35,aP P]);have A2:∀W,Env W->Calls prog 189 #[.string ⟨at0.toArray⟩,.string ⟨t.toArray⟩,.string ⟨vl.toArray⟩] W (ED at0 t vl W):=fun W hE=>Af8 ⟨at0.toArray⟩ ⟨t.toArray⟩ ⟨vl.toArray⟩ (by rw [Ez];omega) (by rw [Ez];omega) (by rw [Ez];omega) W hE;unfold ED at A2;subst P;clear z h35 G;generalize KH at0 t vl=NB at*;generalize DF at0 t vl=EB at*;go_enter func160,ntmps160;go_wp2_with fail;refine b.mono ?_;rintro e w2 ⟨rfl,a⟩;have c:=g.trans (a.mono g.size);have d:=E.call a;have l:=F.below a;clear b m o A p B u q;obtain ⟨m,o,A,p,B,u,q⟩:=d.seven;have A0:=A2 _ l;clear A2;go_wp2_with fail;refine A0.mono ?_;rintro e w3 ⟨rfl,i⟩;have j:=c.trans (i.mono c.size);clear A0 m o A p B u q;go_wp2_with fail;go_ret;exact ⟨by (rw [k.out]) <;> rfl,j⟩
 have k8:(kd==8)=false:=by simpa using P
 have k:Hid (R=decide (kd=5/\0<=JQ at0 t vl\/kd=6/\JQ at0 t vl<=0)):=hZ9 (by rw [z.out,aP rfl,aG G,aG h35,aG P]);have K:∀W,Env W->Calls prog 190 #[.string ⟨at0.toArray⟩,.string ⟨t.toArray⟩,.string ⟨vl.toArray⟩] W (Ff at0 t vl W):=fun W hE=>Tj ⟨at0.toArray⟩ ⟨t.toArray⟩ ⟨vl.toArray⟩ (by rw [Ez];omega) (by rw [Ez];omega) (by rw [Ez];omega) W hE;unfold Ff at K;clear z h35 P;generalize JQ at0 t vl=CB at*;generalize DF at0 t vl=EB at*;by_cases Q:kd=5
 · have M:Hid (R=decide (0<=CB)):=hZ9 (by rw [k.out];exact bO.2 ⟨fun h=>by omega,fun h=>.inl ⟨Q,h⟩⟩);subst Q;clear k G;go_enter func160,ntmps160;go_wp2_with fail;refine b.mono ?_;rintro e w2 ⟨rfl,a⟩;have c:=g.trans (a.mono g.size);have d:=E.call a;have l:=F.below a;clear b m o A p B u q;obtain ⟨m,o,A,p,B,u,q⟩:=d.seven;have C:=K _ l;clear K;go_wp2_with fail;refine C.mono ?_;rintro e w3 ⟨rfl,i⟩;have j:=c.trans (i.mono c.size);have S:=d.call i;clear C m o A p B u q;obtain ⟨m,o,A,p,B,u,q⟩:=S.seven;by_cases T:0<=CB
   · have L:decide (0<=CB)=true:=aL T;go_wp2_with fail;go_ret;exact ⟨by (rw [M.out,L]) <;> rfl,j⟩
   · have L:decide (0<=CB)=false:=aC T;go_wp2_with fail;go_ret;exact ⟨by (rw [M.out,L]) <;> rfl,j⟩
 have k5:(kd==5)=false:=by simpa using Q
 by_cases U:kd=6
 · have M:Hid (R=decide (CB<=0)):=hZ9 (by rw [k.out];exact bO.2 ⟨fun h=>by omega,fun h=>.inr ⟨U,h⟩⟩);subst U;clear k G Q;go_enter func160,ntmps160;go_wp2_with fail;refine b.mono ?_;rintro e w2 ⟨rfl,a⟩;have c:=g.trans (a.mono g.size);have d:=E.call a;have l:=F.below a;clear b m o A p B u q;obtain ⟨m,o,A,p,B,u,q⟩:=d.seven;have C:=K _ l;clear K;go_wp2_with fail;refine C.mono ?_;rintro e w3 ⟨rfl,i⟩;have j:=c.trans (i.mono c.size);have S:=d.call i;clear C m o A p B u q;obtain ⟨m,o,A,p,B,u,q⟩:=S.seven;by_cases T:CB<=0
   · have L:decide (CB<=0)=true:=aL T;go_wp2_with fail;go_ret;exact ⟨by (rw [M.out,L]) <;> rfl,j⟩
   · have L:decide (CB<=0)=false:=aC T;go_wp2_with fail;go_ret;exact ⟨by (rw [M.out,L]) <;> rfl,j⟩
 have k6:(kd==6)=false:=by simpa using U
 have M:Hid (R=false):=hZ9 (by rw [k.out];exact aC (by omega));clear k G Q U;go_enter func160,ntmps160;go_wp2_with fail;refine b.mono ?_;rintro e w2 ⟨rfl,a⟩;have c:=g.trans (a.mono g.size);have d:=E.call a;have l:=F.below a;clear b m o A p B u q;obtain ⟨m,o,A,p,B,u,q⟩:=d.seven;have C:=K _ l;clear K;go_wp2_with fail;refine C.mono ?_;rintro e w3 ⟨rfl,i⟩;have j:=c.trans (i.mono c.size);have S:=d.call i;clear C m o A p B u q;obtain ⟨m,o,A,p,B,u,q⟩:=S.seven;go_wp2_with fail;go_ret;exact ⟨by (rw [M.out]) <;> rfl,j⟩
end Go.Proofs.YtgngjfjaelgaeaaGreatDoor
