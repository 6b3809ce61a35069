/- The walks of the program's pieces and value of a filter. Conditions: as stated. -/
import Derived.Test.YtgngjfjaelgaeaaGreatDoorZDnj
set_option maxRecDepth 100000
set_option maxHeartbeats 8000000
namespace Go.Proofs.YtgngjfjaelgaeaaGreatDoor
open Go.Proofs.Tryz
variable {f l s:iK}
namespace FiS
theorem JK(a:Int)(p:iK):(Ag a p).length=p.length:=by
 unfold Ag;split
 ·exact RuS.lower_length p
 ·rfl
theorem MV{any:List iK}(h:Lib.hasPrefix s f=false):AH f l any s=false:=by unfold AH Hw;rw[h,aG (by simp)]
theorem MW{any:List iK}(h:Lib.hasPrefix s f=true)(h2:Lib.hasSuffix (s.drop f.length) l=false):AH f l any s=false:=by unfold AH Hw;rw[h,aJ rfl,h2,aG (by simp)]
theorem Qn{any:List iK}(h:Lib.hasPrefix s f=true)(h2:Lib.hasSuffix (s.drop f.length) l=true):AH f l any s=DJ any ((s.drop f.length).take ((s.drop f.length).length-l.length)):=by unfold AH Hw;rw[h,aJ rfl,h2,aJ rfl]
theorem Ab6(a x:iK):(DnS.AC a x).1.length<=1000:=by
 unfold DnS.AC;split
 ·split
  ·simp
  ·split
   ·exact DnS.Ic x
   ·simp
 ·exact aX (RuS.normal_len a x) (by decide)
end FiS
open Go.RowKit
open FiS (Fi)
attribute [local go_sem ↓] Go.wp_at_zero Go.wp_at_succ
theorem Ab7(s:ByteArray)(w:World):Calls prog 188 #[.string s] w λe w'=>e=.returned (.string s)/\w=w':=by go_enter func188,ntmps188;go_wp2_with fail;go_ret;exact⟨rfl,rfl⟩
theorem Uh(n:Nat)(x:Fi)(v:Value)(s:iK)(a:Int)(D5:a=1)(w:World)(h:BF n w v x)(C2:FiS.wdF 20000 x)(hs:s.length<=20000)(hE:Env w):Calls prog 187 #[v,s,.func (.func 86) #[] #[]] w (AP (FiS.AH (FiS.Ag a x.first) (FiS.Ag a x.last) (x.any.map (FiS.Ag a)) s) w):=by
 have hG:∀(p:iK) (W:World),p.length<=20000->Calls prog 86 #[.string ⟨p.toArray⟩] W λe w'=>e=.returned (.string ⟨(FiS.Ag a p).toArray⟩)/\Below W.heap.size W w':=λp W hp=>by
  have h:=lower_c ⟨p.toArray⟩ (by rw[BZ];omega) W;unfold Cb at h;have e:FiS.Ag a p=RuS.lower p:=by unfold FiS.Ag;rw[aJ D5]
  rw[e];exact h
 have HG:=hZ9 hG;have F:Hid (∀p,(FiS.Ag a p).length=p.length):=hZ9 (λp=>FiS.JK a p);clear hG;obtain⟨kd,B3,vl,fs,ls,b,ps⟩:=x;obtain⟨a5,c5,a6,c6,hv,Z,A3,A1⟩:=FiV.parts h;have hv:v=.agg #[kd,B3,vl,fs,ls,.slice a5 b.length c5,.slice a6 ps.length c6]:=hv;subst hv;have Z:Ah w (.slice a5 b.length c5) b:=Z;have A3:ps.length<=c6:=A3;have A1:Bl n (λ_=>True) w (.slice a6 ps.length c6) ps:=A1;rw[FiS.wdF] at C2;obtain⟨⟨D7,D8,D2,C5⟩,B7,X,_,_⟩:=C2;have c:=hZ9 (λj (hj:j<b.length)=>X b[j] (aZ hj));clear X;obtain⟨AL,C⟩:∃m,b.length=m:=⟨_,rfl⟩
 obtain⟨PL,A5⟩:∃m,ps.length=m:=⟨_,rfl⟩
 have C7:=hZ9 C;have D3:=hZ9 A5;rw[C] at Z;rw[A5] at A3 A1
 try rw[C]
 try rw[A5]
 have B:=Af w (.cells #[kd,B3,vl,fs,ls,.slice a5 AL c5,.slice a6 PL c6] 36);have B2:=Whole.made w 36 #[kd,B3,vl,fs,ls,.slice a5 AL c5,.slice a6 PL c6];obtain⟨q0,q1,L,q3,q4,q5,q6⟩:=B2.seven;rw[C] at B7;obtain⟨a',c',e,C9,B4⟩:=Ad.at (Z.strsP (λ_=>True) (λ_ _=>trivial));injection e with e1 e2 e3;rw[<-e1] at B4;have Q:=hZ9 B4;have I:=hZ9 (λj (hj:j<b.length)=>av hj);have u:Hid (b.drop AL=[]):=hZ9 (by rw[<-C];exact cj);show Calls _ _ _ _ (AP (FiS.AH (FiS.Ag a fs) (FiS.Ag a ls) (b.map (FiS.Ag a)) s) w)
 clear B4 Z e1 e2 e3 C9 h A1 C A5 D3 A3;have G:=λW=>HG.out fs W D2;have Y:=λW=>HG.out ls W C5;have E3:=F.out fs;have D9:=F.out ls;generalize FiS.Ag a fs=F1 at*;generalize FiS.Ag a ls=L1 at*;have A7:=hZ9 (λh=>@FiS.MV F1 L1 s (b.map (FiS.Ag a)) h);have A0:=hZ9 (λh h2=>@FiS.MW F1 L1 s (b.map (FiS.Ag a)) h h2);have A8:=hZ9 (λh h2=>@FiS.Qn F1 L1 s (b.map (FiS.Ag a)) h h2);obtain⟨R,hR⟩:∃r,FiS.AH F1 L1 (b.map (FiS.Ag a)) s=r:=⟨_,rfl⟩
 rw[hR] at A7 A0 A8⊢;clear hR;unfold AP;have A:∀W,Calls prog 210 #[s,F1] W λe w'=>e=.returned (.tuple #[.string ⟨(Lib.trimPrefix s F1).toArray⟩,.bool (Lib.hasPrefix s F1)])/\w'=W:=λW=>strings_CutPrefix ⟨s.toArray⟩ ⟨F1.toArray⟩ W;have z:Hid (Lib.hasPrefix s F1=true->Lib.trimPrefix s F1=s.drop F1.length):=hZ9 (λh=>by unfold Lib.trimPrefix;rw[aJ h]);have E4:(s.drop F1.length).length<=20000:=by rw[bD];omega
 cases hp:Lib.hasPrefix s F1 with
 |false=>have B0:Hid (R=false):=hZ9 (A7.out hp);rw[hp] at A;clear hp A7 A0 A8 z HG F c Q I u Y;go_enter func187,ntmps187;go_wp2_with fail;refine(G _).mono ?_;rintro e w2 ⟨rfl,d⟩;have t:=B.trans (d.mono B.size);clear G q0 q1 L q3 q4 q5 q6;go_wp2_with fail;refine(A _).mono ?_;rintro e w3 ⟨rfl,rfl⟩;go_wp2_with fail;go_ret;exact⟨by(rw[B0.out])<;>rfl,t⟩
 |true=>
  rw[hp,z.out hp] at A;have N:=hZ9 (λh2=>A0.out hp h2);have M:=hZ9 (λh2=>A8.out hp h2);clear hp A7 A0 A8 z;generalize s.drop F1.length=s1 at*;have O:∀W,Calls prog 206 #[s1,L1] W λe w'=>e=.returned (.tuple #[.string ⟨(Lib.trimSuffix s1 L1).toArray⟩,.bool (Lib.hasSuffix s1 L1)])/\w'=W:=λW=>strings_CutSuffix ⟨s1.toArray⟩ ⟨L1.toArray⟩ W (by rw[BZ];omega);have z:Hid (Lib.hasSuffix s1 L1=true->Lib.trimSuffix s1 L1=s1.take (s1.length-L1.length)):=hZ9 (λh=>by unfold Lib.trimSuffix;rw[aJ h]);have B8:(s1.take (s1.length-L1.length)).length<=20000:=by rw[ar];omega
  cases hp:Lib.hasSuffix s1 L1 with
  |false=>have B0:Hid (R=false):=hZ9 (N.out hp);rw[hp] at O;clear hp N M z HG F c Q I u;go_enter func187,ntmps187;go_wp2_with fail;refine(G _).mono ?_;rintro e w2 ⟨rfl,d⟩;have t:=B.trans (d.mono B.size);have V:=B2.call d;clear G q0 q1 L q3 q4 q5 q6;obtain⟨q0,q1,L,q3,q4,q5,q6⟩:=V.seven;go_wp2_with fail;refine(A _).mono ?_;rintro e w3 ⟨rfl,rfl⟩;go_wp2_with fail;refine(Y _).mono ?_;rintro e w4 ⟨rfl,J⟩;have A2:=t.trans (J.mono t.size);clear Y q0 q1 L q3 q4 q5 q6;go_wp2_with fail;refine(O _).mono ?_;rintro e w5 ⟨rfl,rfl⟩;go_wp2_with fail;go_ret;exact⟨by(rw[B0.out])<;>rfl,A2⟩
  |true=>
   rw[hp,z.out hp] at O;have C0:=hZ9 (M.out hp);clear hp N M z;generalize s1.take (s1.length-L1.length)=s2 at*;go_enter func187,ntmps187;go_wp2_with fail;refine(G _).mono ?_;rintro e w2 ⟨rfl,d⟩;have t:=B.trans (d.mono B.size);have V:=B2.call d;clear G q0 q1 L q3 q4 q5 q6;obtain⟨q0,q1,L,q3,q4,q5,q6⟩:=V.seven;go_wp2_with fail;refine(A _).mono ?_;rintro e w3 ⟨rfl,rfl⟩;go_wp2_with fail;refine(Y _).mono ?_;rintro e w4 ⟨rfl,J⟩;have A2:=t.trans (J.mono t.size);have B9:=V.call J;clear Y q0 q1 L q3 q4 q5 q6 V d J t;obtain⟨q0,q1,L,q3,q4,q5,q6⟩:=B9.seven;go_wp2_with fail;refine(O _).mono ?_;rintro e w5 ⟨rfl,rfl⟩;clear A O;go_wp2_with fail;clear q0 q1 L q3 q4 q5 q6 B9;go_loopw [1,35] (λsv i wr=>∃(j:Nat) (q:iK),j<=AL/\i=.int .i64 j/\sv=.string ⟨q.toArray⟩/\q.length<=20000/\Hid (R=FiS.DJ ((b.drop j).map (FiS.Ag a)) q)/\Below w.heap.size w wr) (λ_ i _=>AL-(intOf i).toNat)
   case atStart=>exact⟨0,s2,aR _,rfl,rfl,B8,hZ9 (by rw[C0.out,bI]),A2⟩
   case round=>
    obtain⟨j,q,hj,rfl,rfl,E1,HQ,hb⟩:=hrel;clear A2 C0;by_cases D4:j<AL
    ·have K:j<b.length:=by rw[C7.out];exact D4
     have C1:=hZ9 (I.out j K);have B6:=c.out j K;obtain⟨g,o,C6,hg,_,hra⟩:=Q.out j K;have D1:wr.cell? ⟨g,o+j,none⟩=some (Ac b[j]):=by have:w.cell? ⟨g,o+j*1,none⟩=some (Ac b[j]):=hra;rw[bp] at this;exact Ab this hb
     clear hra Q I c u;subst C6;generalize b[j]=p at*;unfold Ac at D1;have A4:=HG.out p wr B6;have C4:=F.out p;have A6:Hid (R=if 0<=Lib.index q (FiS.Ag a p) then FiS.DJ ((b.drop (j+1)).map (FiS.Ag a)) (q.drop ((Lib.index q (FiS.Ag a p)).toNat+(FiS.Ag a p).length)) else false):=hZ9 (by rw[HQ.out,C1.out,cT,FiS.DJ]);clear HQ C1;generalize FiS.Ag a p=P1 at*;have C3:=hE.below hb;obtain⟨m,hm⟩:=C3.maxLen;have E2:(0:Int)<=(j:Int):=by omega
     have E0:(j:Int)<(AL:Int):=by omega
     have H:Hid (∀W,Below wr.heap.size wr W->Calls prog 168 #[q,P1] W λe w'=>e=.returned (.tuple #[.string ⟨(Lib.cut q P1).1.toArray⟩,.string ⟨(Lib.cut q P1).2.1.toArray⟩,.bool (Lib.cut q P1).2.2])/\Below W.heap.size W w'):=hZ9 (λW C8=>by
      obtain⟨m,hm⟩:=(C3.below C8).maxLen;refine(strings_Cut ⟨q.toArray⟩ ⟨P1.toArray⟩ m W (by rw[BZ];omega) hm).mono ?_;rintro e w' ⟨rfl,k,rfl⟩;exact⟨rfl,below_drewN W k⟩)
     have A9:∀k,(q.drop k).length<=20000:=λk=>by rw[bD];omega
     clear hm;by_cases E:0<=Lib.index q P1
     ·have U:Hid (R=FiS.DJ ((b.drop (j+1)).map (FiS.Ag a)) (q.drop ((Lib.index q P1).toNat+P1.length))):=hZ9 (by rw[A6.out,aJ E]);have P:Lib.cut q P1=(q.take (Lib.index q P1).toNat,q.drop ((Lib.index q P1).toNat+P1.length),true):=by unfold Lib.cut;rw[aJ E]
      rw[P] at H;have D0:=A9 ((Lib.index q P1).toNat+P1.length);clear P A9 A6 E;generalize q.drop ((Lib.index q P1).toNat+P1.length)=L at*;generalize q.take (Lib.index q P1).toNat=q1 at*;go_wp2_with fail;refine A4.mono ?_;rintro e w6 ⟨rfl,T⟩;have y:=H.out w6 T;have S:=hb.trans (T.mono hb.size);clear A4 H;go_wp2_with fail;refine y.mono ?_;rintro e w7 ⟨rfl,B5⟩;have B1:=S.trans (B5.mono S.size);clear y;go_wp2_with fail;go_roundw
      case rel=>exact⟨j+1,L,by omega,by go_num,rfl,D0,U,B1⟩
      case measure=>simp[intOf];omega
     ·have U:Hid (R=false):=hZ9 (by rw[A6.out,aG E]);have P:Lib.cut q P1=(q,[],false):=by unfold Lib.cut;rw[aG E]
      rw[P] at H;clear P A9 A6 E;go_wp2_with fail;refine A4.mono ?_;rintro e w6 ⟨rfl,T⟩;have y:=H.out w6 T;have S:=hb.trans (T.mono hb.size);clear A4 H;go_wp2_with fail;refine y.mono ?_;rintro e w7 ⟨rfl,B5⟩;have B1:=S.trans (B5.mono S.size);clear y;go_wp2_with fail;go_ret;exact⟨by(rw[U.out])<;>rfl,B1⟩
    ·have D6:j=AL:=by omega
     subst D6;have U:Hid (R=true):=hZ9 (by rw[HQ.out,u.out];rfl);clear Q I c u HQ HG F;go_wp2_with fail;go_ret;exact⟨by(rw[U.out])<;>rfl,hb⟩
theorem Vr(n:Nat)(x:Fi)(v:Value)(s:iK)(a:Int)(D5:a≠1)(w:World)(h:BF n w v x)(C2:FiS.wdF 20000 x)(hs:s.length<=20000)(hE:Env w):Calls prog 187 #[v,s,.func (.func 188) #[] #[]] w (AP (FiS.AH (FiS.Ag a x.first) (FiS.Ag a x.last) (x.any.map (FiS.Ag a)) s) w):=by
 have hG:∀(p:iK) (W:World),p.length<=20000->Calls prog 188 #[.string ⟨p.toArray⟩] W λe w'=>e=.returned (.string ⟨(FiS.Ag a p).toArray⟩)/\Below W.heap.size W w':=λp W hp=>by
  have e:FiS.Ag a p=p:=by unfold FiS.Ag;rw[aG D5]
  rw[e];refine(Ab7 ⟨p.toArray⟩ W).mono ?_;rintro e w' ⟨rfl,rfl⟩;exact⟨rfl,Below.refl _ _⟩
 have HG:=hZ9 hG;have F:Hid (∀p,(FiS.Ag a p).length=p.length):=hZ9 (λp=>FiS.JK a p);clear hG;obtain⟨kd,B3,vl,fs,ls,b,ps⟩:=x;obtain⟨a5,c5,a6,c6,hv,Z,A3,A1⟩:=FiV.parts h;have hv:v=.agg #[kd,B3,vl,fs,ls,.slice a5 b.length c5,.slice a6 ps.length c6]:=hv;subst hv;have Z:Ah w (.slice a5 b.length c5) b:=Z;have A3:ps.length<=c6:=A3;have A1:Bl n (λ_=>True) w (.slice a6 ps.length c6) ps:=A1;rw[FiS.wdF] at C2;obtain⟨⟨D7,D8,D2,C5⟩,B7,X,_,_⟩:=C2;have c:=hZ9 (λj (hj:j<b.length)=>X b[j] (aZ hj));clear X;obtain⟨AL,C⟩:∃m,b.length=m:=⟨_,rfl⟩
 obtain⟨PL,A5⟩:∃m,ps.length=m:=⟨_,rfl⟩
 have C7:=hZ9 C;have D3:=hZ9 A5;rw[C] at Z;rw[A5] at A3 A1
 try rw[C]
 try rw[A5]
 have B:=Af w (.cells #[kd,B3,vl,fs,ls,.slice a5 AL c5,.slice a6 PL c6] 36);have B2:=Whole.made w 36 #[kd,B3,vl,fs,ls,.slice a5 AL c5,.slice a6 PL c6];obtain⟨q0,q1,L,q3,q4,q5,q6⟩:=B2.seven;rw[C] at B7;obtain⟨a',c',e,C9,B4⟩:=Ad.at (Z.strsP (λ_=>True) (λ_ _=>trivial));injection e with e1 e2 e3;rw[<-e1] at B4;have Q:=hZ9 B4;have I:=hZ9 (λj (hj:j<b.length)=>av hj);have u:Hid (b.drop AL=[]):=hZ9 (by rw[<-C];exact cj);show Calls _ _ _ _ (AP (FiS.AH (FiS.Ag a fs) (FiS.Ag a ls) (b.map (FiS.Ag a)) s) w)
 clear B4 Z e1 e2 e3 C9 h A1 C A5 D3 A3;have G:=λW=>HG.out fs W D2;have Y:=λW=>HG.out ls W C5;have E3:=F.out fs;have D9:=F.out ls;generalize FiS.Ag a fs=F1 at*;generalize FiS.Ag a ls=L1 at*;have A7:=hZ9 (λh=>@FiS.MV F1 L1 s (b.map (FiS.Ag a)) h);have A0:=hZ9 (λh h2=>@FiS.MW F1 L1 s (b.map (FiS.Ag a)) h h2);have A8:=hZ9 (λh h2=>@FiS.Qn F1 L1 s (b.map (FiS.Ag a)) h h2);obtain⟨R,hR⟩:∃r,FiS.AH F1 L1 (b.map (FiS.Ag a)) s=r:=⟨_,rfl⟩
 rw[hR] at A7 A0 A8⊢;clear hR;unfold AP;have A:∀W,Calls prog 210 #[s,F1] W λe w'=>e=.returned (.tuple #[.string ⟨(Lib.trimPrefix s F1).toArray⟩,.bool (Lib.hasPrefix s F1)])/\w'=W:=λW=>strings_CutPrefix ⟨s.toArray⟩ ⟨F1.toArray⟩ W;have z:Hid (Lib.hasPrefix s F1=true->Lib.trimPrefix s F1=s.drop F1.length):=hZ9 (λh=>by unfold Lib.trimPrefix;rw[aJ h]);have E4:(s.drop F1.length).length<=20000:=by rw[bD];omega
 cases hp:Lib.hasPrefix s F1 with
 |false=>have B0:Hid (R=false):=hZ9 (A7.out hp);rw[hp] at A;clear hp A7 A0 A8 z HG F c Q I u Y;go_enter func187,ntmps187;go_wp2_with fail;refine(G _).mono ?_;rintro e w2 ⟨rfl,d⟩;have t:=B.trans (d.mono B.size);clear G q0 q1 L q3 q4 q5 q6;go_wp2_with fail;refine(A _).mono ?_;rintro e w3 ⟨rfl,rfl⟩;go_wp2_with fail;go_ret;exact⟨by(rw[B0.out])<;>rfl,t⟩
 |true=>
  rw[hp,z.out hp] at A;have N:=hZ9 (λh2=>A0.out hp h2);have M:=hZ9 (λh2=>A8.out hp h2);clear hp A7 A0 A8 z;generalize s.drop F1.length=s1 at*;have O:∀W,Calls prog 206 #[s1,L1] W λe w'=>e=.returned (.tuple #[.string ⟨(Lib.trimSuffix s1 L1).toArray⟩,.bool (Lib.hasSuffix s1 L1)])/\w'=W:=λW=>strings_CutSuffix ⟨s1.toArray⟩ ⟨L1.toArray⟩ W (by rw[BZ];omega);have z:Hid (Lib.hasSuffix s1 L1=true->Lib.trimSuffix s1 L1=s1.take (s1.length-L1.length)):=hZ9 (λh=>by unfold Lib.trimSuffix;rw[aJ h]);have B8:(s1.take (s1.length-L1.length)).length<=20000:=by rw[ar];omega
  cases hp:Lib.hasSuffix s1 L1 with
  |false=>have B0:Hid (R=false):=hZ9 (N.out hp);rw[hp] at O;clear hp N M z HG F c Q I u;go_enter func187,ntmps187;go_wp2_with fail;refine(G _).mono ?_;rintro e w2 ⟨rfl,d⟩;have t:=B.trans (d.mono B.size);have V:=B2.call d;clear G q0 q1 L q3 q4 q5 q6;obtain⟨q0,q1,L,q3,q4,q5,q6⟩:=V.seven;go_wp2_with fail;refine(A _).mono ?_;rintro e w3 ⟨rfl,rfl⟩;go_wp2_with fail;refine(Y _).mono ?_;rintro e w4 ⟨rfl,J⟩;have A2:=t.trans (J.mono t.size);clear Y q0 q1 L q3 q4 q5 q6;go_wp2_with fail;refine(O _).mono ?_;rintro e w5 ⟨rfl,rfl⟩;go_wp2_with fail;go_ret;exact⟨by(rw[B0.out])<;>rfl,A2⟩
  |true=>
   rw[hp,z.out hp] at O;have C0:=hZ9 (M.out hp);clear hp N M z;generalize s1.take (s1.length-L1.length)=s2 at*;go_enter func187,ntmps187;go_wp2_with fail;refine(G _).mono ?_;rintro e w2 ⟨rfl,d⟩;have t:=B.trans (d.mono B.size);have V:=B2.call d;clear G q0 q1 L q3 q4 q5 q6;obtain⟨q0,q1,L,q3,q4,q5,q6⟩:=V.seven;go_wp2_with fail;refine(A _).mono ?_;rintro e w3 ⟨rfl,rfl⟩;go_wp2_with fail;refine(Y _).mono ?_;rintro e w4 ⟨rfl,J⟩;have A2:=t.trans (J.mono t.size);have B9:=V.call J;clear Y q0 q1 L q3 q4 q5 q6 V d J t;obtain⟨q0,q1,L,q3,q4,q5,q6⟩:=B9.seven;go_wp2_with fail;refine(O _).mono ?_;rintro e w5 ⟨rfl,rfl⟩;clear A O;go_wp2_with fail;clear q0 q1 L q3 q4 q5 q6 B9;go_loopw [1,35] (λsv i wr=>∃(j:Nat) (q:iK),j<=AL/\i=.int .i64 j/\sv=.string ⟨q.toArray⟩/\q.length<=20000/\Hid (R=FiS.DJ ((b.drop j).map (FiS.Ag a)) q)/\Below w.heap.size w wr) (λ_ i _=>AL-(intOf i).toNat)
   case atStart=>exact⟨0,s2,aR _,rfl,rfl,B8,hZ9 (by rw[C0.out,bI]),A2⟩
   case round=>
    obtain⟨j,q,hj,rfl,rfl,E1,HQ,hb⟩:=hrel;clear A2 C0;by_cases D4:j<AL
    ·have K:j<b.length:=by rw[C7.out];exact D4
     have C1:=hZ9 (I.out j K);have B6:=c.out j K;obtain⟨g,o,C6,hg,_,hra⟩:=Q.out j K;have D1:wr.cell? ⟨g,o+j,none⟩=some (Ac b[j]):=by have:w.cell? ⟨g,o+j*1,none⟩=some (Ac b[j]):=hra;rw[bp] at this;exact Ab this hb
     clear hra Q I c u;subst C6;generalize b[j]=p at*;unfold Ac at D1;have A4:=HG.out p wr B6;have C4:=F.out p;have A6:Hid (R=if 0<=Lib.index q (FiS.Ag a p) then FiS.DJ ((b.drop (j+1)).map (FiS.Ag a)) (q.drop ((Lib.index q (FiS.Ag a p)).toNat+(FiS.Ag a p).length)) else false):=hZ9 (by rw[HQ.out,C1.out,cT,FiS.DJ]);clear HQ C1;generalize FiS.Ag a p=P1 at*;have C3:=hE.below hb;obtain⟨m,hm⟩:=C3.maxLen;have E2:(0:Int)<=(j:Int):=by omega
     have E0:(j:Int)<(AL:Int):=by omega
     have H:Hid (∀W,Below wr.heap.size wr W->Calls prog 168 #[q,P1] W λe w'=>e=.returned (.tuple #[.string ⟨(Lib.cut q P1).1.toArray⟩,.string ⟨(Lib.cut q P1).2.1.toArray⟩,.bool (Lib.cut q P1).2.2])/\Below W.heap.size W w'):=hZ9 (λW C8=>by
      obtain⟨m,hm⟩:=(C3.below C8).maxLen;refine(strings_Cut ⟨q.toArray⟩ ⟨P1.toArray⟩ m W (by rw[BZ];omega) hm).mono ?_;rintro e w' ⟨rfl,k,rfl⟩;exact⟨rfl,below_drewN W k⟩)
     have A9:∀k,(q.drop k).length<=20000:=λk=>by rw[bD];omega
     clear hm;by_cases E:0<=Lib.index q P1
     ·have U:Hid (R=FiS.DJ ((b.drop (j+1)).map (FiS.Ag a)) (q.drop ((Lib.index q P1).toNat+P1.length))):=hZ9 (by rw[A6.out,aJ E]);have P:Lib.cut q P1=(q.take (Lib.index q P1).toNat,q.drop ((Lib.index q P1).toNat+P1.length),true):=by unfold Lib.cut;rw[aJ E]
      rw[P] at H;have D0:=A9 ((Lib.index q P1).toNat+P1.length);clear P A9 A6 E;generalize q.drop ((Lib.index q P1).toNat+P1.length)=L at*;generalize q.take (Lib.index q P1).toNat=q1 at*;go_wp2_with fail;refine A4.mono ?_;rintro e w6 ⟨rfl,T⟩;have y:=H.out w6 T;have S:=hb.trans (T.mono hb.size);clear A4 H;go_wp2_with fail;refine y.mono ?_;rintro e w7 ⟨rfl,B5⟩;have B1:=S.trans (B5.mono S.size);clear y;go_wp2_with fail;go_roundw
      case rel=>exact⟨j+1,L,by omega,by go_num,rfl,D0,U,B1⟩
      case measure=>simp[intOf];omega
     ·have U:Hid (R=false):=hZ9 (by rw[A6.out,aG E]);have P:Lib.cut q P1=(q,[],false):=by unfold Lib.cut;rw[aG E]
      rw[P] at H;clear P A9 A6 E;go_wp2_with fail;refine A4.mono ?_;rintro e w6 ⟨rfl,T⟩;have y:=H.out w6 T;have S:=hb.trans (T.mono hb.size);clear A4 H;go_wp2_with fail;refine y.mono ?_;rintro e w7 ⟨rfl,B5⟩;have B1:=S.trans (B5.mono S.size);clear y;go_wp2_with fail;go_ret;exact⟨by(rw[U.out])<;>rfl,B1⟩
    ·have D6:j=AL:=by omega
     subst D6;have U:Hid (R=true):=hZ9 (by rw[HQ.out,u.out];rfl);clear Q I c u HQ HG F;go_wp2_with fail;go_ret;exact⟨by(rw[U.out])<;>rfl,hb⟩
theorem Ab8(n:Nat)(x:Fi)(v:Value)(t:iK)(A:Int)(A7:(RuS.typeOf x.attr).2=A)(w:World)(h:BF n w v x)(M:FiS.wdF 20000 x)(ht:t.length<=1000000)(hE:Env w):Calls prog 160 #[v,t,A] w (AP (FiS.CX x.kind x.attr x.value x.first x.last x.any t) w):=by
 have A5:=M;have hA:x.attr.length<=20000/\x.value.length<=20000:=by cases x;rw[FiS.wdF] at M;exact⟨M.1.1,M.1.2.1⟩
 have u:Hid (FiS.CX x.kind x.attr x.value x.first x.last x.any t=if(DnS.AC x.attr t).2=0 then
  (if x.kind=4 then FiS.AH (FiS.Ag A x.first) (FiS.Ag A x.last) (x.any.map (FiS.Ag A)) (DnS.AC x.attr t).1
  else if x.kind=3\/A=5 then(DnS.AC x.attr t).1==(DnS.AC x.attr x.value).1
  else if x.kind=8 then Im x.attr t x.value
  else decide (x.kind=5/\0<=Hg x.attr t x.value\/x.kind=6/\Hg x.attr t x.value<=0)) else false):=hZ9 (by unfold FiS.CX;rw[A7])
 have P:Hid (∀s W,A=1->BF n W v x->s.length<=20000->Env W->Calls prog 187 #[v,.string ⟨s.toArray⟩,.func (.func 86) #[] #[]] W (AP (FiS.AH (FiS.Ag A x.first) (FiS.Ag A x.last) (x.any.map (FiS.Ag A)) s) W)):=hZ9 (λs W hs h hl hE=>Uh n x v s A hs W h M hl hE);have O:Hid (∀s W,A≠1->BF n W v x->s.length<=20000->Env W->Calls prog 187 #[v,.string ⟨s.toArray⟩,.func (.func 188) #[] #[]] W (AP (FiS.AH (FiS.Ag A x.first) (FiS.Ag A x.last) (x.any.map (FiS.Ag A)) s) W)):=hZ9 (λs W hs h hl hE=>Vr n x v s A hs W h M hl hE);clear A5 A7 M;have HH:=hZ9 h;obtain⟨a5,c5,a6,c6,hv,B0,B3,A8⟩:=FiV.parts h;obtain⟨PC,A6⟩:∃f:iK->Bool,(λs=>FiS.AH (FiS.Ag A x.first) (FiS.Ag A x.last) (x.any.map (FiS.Ag A)) s)=f:=⟨_,rfl⟩
 have A1:∀s,FiS.AH (FiS.Ag A x.first) (FiS.Ag A x.last) (x.any.map (FiS.Ag A)) s=PC s:=λs=>congrFun A6 s;simp only[A1] at u P O;clear A6 A1 B0 A8;obtain⟨R,hR⟩:∃r,FiS.CX x.kind x.attr x.value x.first x.last x.any t=r:=⟨_,rfl⟩
 rw[hR] at u⊢;clear hR h;generalize x.any.length=AL at*;generalize x.parts.length=PL at*;generalize x.kind=kd at*;generalize x.attr=at0 at*;generalize x.value=vl at*;generalize x.first=fs at*;generalize x.last=ls at*;subst hv;unfold AP at*;have g:=Af w (.cells #[kd,at0,vl,fs,ls,.slice a5 AL c5,.slice a6 PL c6] 36);have F:=Whole.made w 36 #[kd,at0,vl,fs,ls,.slice a5 AL c5,.slice a6 PL c6];obtain⟨y,C,p,B,o,z,q⟩:=F.seven;obtain⟨B2,B5⟩:=hA;have A2:=λW hE=>GW at0 t (by omega) ht W hE;have I:=λW hE=>GW at0 vl (by omega) (by omega) W hE;have A9:=FiS.Ab6 at0 t;unfold Bo at A2 I;have G:=hE.below g;generalize DnS.AC at0 t=X at*;obtain⟨X1,X2⟩:=X;simp only at A2 A9 u;have b:=A2 _ G;clear A2;by_cases A4:X2=0
 case neg=>
  have k:Hid (R=false):=hZ9 (by rw[u.out,aG A4]);have B4:(X2 !=0)=true:=by simpa using A4
  clear u P O I HH;go_enter func160,ntmps160;go_wp2_with fail;refine b.mono ?_;rintro e w2 ⟨rfl,a⟩;have c:=g.trans (a.mono g.size);have d:=F.call a;have m:=G.below a;clear b y C p B o z q;obtain⟨y,C,p,B,o,z,q⟩:=d.seven;go_wp2_with fail;go_ret;exact⟨by(rw[k.out])<;>rfl,c⟩
 subst A4;by_cases H:kd=4
 ·subst H;have k:Hid (R=PC X1):=hZ9 (by rw[u.out];simp);clear u I;by_cases V:A=1
  ·have HV:=hZ9 (λW h hE=>P.out X1 W V h (by omega) hE);subst V;clear P O;go_enter func160,ntmps160;go_wp2_with fail;refine b.mono ?_;rintro e w2 ⟨rfl,a⟩;have c:=g.trans (a.mono g.size);have d:=F.call a;have m:=G.below a;clear b y C p B o z q;obtain⟨y,C,p,B,o,z,q⟩:=d.seven;have hp:=HV.out w2 (HH.out.call c) m;clear HV HH;go_wp2_with fail;refine hp.mono ?_;rintro e w3 ⟨rfl,i⟩;have j:=c.trans (i.mono c.size);clear hp;go_wp2_with fail;go_ret;exact⟨by(rw[k.out])<;>rfl,j⟩
  ·have HV:=hZ9 (λW h hE=>O.out X1 W V h (by omega) hE);have B1:(A==1)=false:=by simpa using V
   clear P O;go_enter func160,ntmps160;go_wp2_with fail;refine b.mono ?_;rintro e w2 ⟨rfl,a⟩;have c:=g.trans (a.mono g.size);have d:=F.call a;have m:=G.below a;clear b y C p B o z q;obtain⟨y,C,p,B,o,z,q⟩:=d.seven;have hp:=HV.out w2 (HH.out.call c) m;clear HV HH;go_wp2_with fail;refine hp.mono ?_;rintro e w3 ⟨rfl,i⟩;have j:=c.trans (i.mono c.size);clear hp;go_wp2_with fail;go_ret;exact⟨by(rw[k.out])<;>rfl,j⟩
 have k4:(kd==4)=false:=by simpa using H
 clear P O HH;by_cases h35:kd=3\/A=5
 ·have k:Hid (R=(X1==(DnS.AC at0 vl).1)):=hZ9 (by rw[u.out,aJ rfl,aG H,aJ h35]);have hd:(kd==3)=true\/((kd==3)=false/\(A==5)=true):=by
   by_cases h3:kd=3
   ·exact .inl (by simpa using h3)
   ·exact .inr ⟨by simpa using h3,by simpa using h35.resolve_left h3⟩
  clear u h35 H;generalize DnS.AC at0 vl=Y at*;obtain⟨Y1,Y2⟩:=Y;simp only at I k;rcases hd with k3|⟨k3,s5⟩
  ·go_enter func160,ntmps160;go_wp2_with fail;refine b.mono ?_;rintro e w2 ⟨rfl,a⟩;have c:=g.trans (a.mono g.size);have d:=F.call a;have m:=G.below a;clear b y C p B o z q;obtain⟨y,C,p,B,o,z,q⟩:=d.seven;have J:=I _ m;clear I;go_wp2_with fail;refine J.mono ?_;rintro e w3 ⟨rfl,i⟩;have j:=c.trans (i.mono c.size);clear J y C p B o z q;go_wp2_with fail;go_ret;exact⟨by(rw[k.out])<;>rfl,j⟩
  ·go_enter func160,ntmps160;go_wp2_with fail;refine b.mono ?_;rintro e w2 ⟨rfl,a⟩;have c:=g.trans (a.mono g.size);have d:=F.call a;have m:=G.below a;clear b y C p B o z q;obtain⟨y,C,p,B,o,z,q⟩:=d.seven;have J:=I _ m;clear I;go_wp2_with fail;refine J.mono ?_;rintro e w3 ⟨rfl,i⟩;have j:=c.trans (i.mono c.size);clear J y C p B o z q;go_wp2_with fail;go_ret;exact⟨by(rw[k.out])<;>rfl,j⟩
 have k3:(kd==3)=false:=by simpa using λh=>h35 (.inl h)
 have s5:(A==5)=false:=by simpa using λh=>h35 (.inr h)
 clear I;by_cases Q:kd=8
 ·have k:Hid (R=Im at0 t vl):=hZ9 (by rw[u.out,aJ rfl,aG H,aG h35,aJ Q]);have A3:∀W,Env W->Calls prog 189 #[at0,t,vl] W (CC at0 t vl W):=λW hE=>Agz ⟨at0.toArray⟩ ⟨t.toArray⟩ ⟨vl.toArray⟩ (by rw[BZ];omega) (by rw[BZ];omega) (by rw[BZ];omega) W hE;unfold CC at A3;subst Q;clear u h35 H;generalize Im at0 t vl=NB at*;generalize Dl at0 t vl=EB at*;go_enter func160,ntmps160;go_wp2_with fail;refine b.mono ?_;rintro e w2 ⟨rfl,a⟩;have c:=g.trans (a.mono g.size);have d:=F.call a;have m:=G.below a;clear b y C p B o z q;obtain⟨y,C,p,B,o,z,q⟩:=d.seven;have A0:=A3 _ m;clear A3;go_wp2_with fail;refine A0.mono ?_;rintro e w3 ⟨rfl,i⟩;have j:=c.trans (i.mono c.size);clear A0 y C p B o z q;go_wp2_with fail;go_ret;exact⟨by(rw[k.out])<;>rfl,j⟩
 have k8:(kd==8)=false:=by simpa using Q
 have k:Hid (R=decide (kd=5/\0<=Hg at0 t vl\/kd=6/\Hg at0 t vl<=0)):=hZ9 (by rw[u.out,aJ rfl,aG H,aG h35,aG Q]);have L:∀W,Env W->Calls prog 190 #[at0,t,vl] W (CW at0 t vl W):=λW hE=>Uk ⟨at0.toArray⟩ ⟨t.toArray⟩ ⟨vl.toArray⟩ (by rw[BZ];omega) (by rw[BZ];omega) (by rw[BZ];omega) W hE;unfold CW at L;clear u h35 Q;generalize Hg at0 t vl=CB at*;generalize Dl at0 t vl=EB at*;by_cases U:kd=5
 ·have N:Hid (R=decide (0<=CB)):=hZ9 (by rw[k.out];exact bM.2 ⟨λh=>by omega,λh=>.inl ⟨U,h⟩⟩);subst U;clear k H;go_enter func160,ntmps160;go_wp2_with fail;refine b.mono ?_;rintro e w2 ⟨rfl,a⟩;have c:=g.trans (a.mono g.size);have d:=F.call a;have m:=G.below a;clear b y C p B o z q;obtain⟨y,C,p,B,o,z,q⟩:=d.seven;have E:=L _ m;clear L;go_wp2_with fail;refine E.mono ?_;rintro e w3 ⟨rfl,i⟩;have j:=c.trans (i.mono c.size);have T:=d.call i;clear E y C p B o z q;obtain⟨y,C,p,B,o,z,q⟩:=T.seven;by_cases S:0<=CB
  ·have K:decide (0<=CB)=true:=aI S;go_wp2_with fail;go_ret;exact⟨by(rw[N.out,K])<;>rfl,j⟩
  ·have K:decide (0<=CB)=false:=aB S;go_wp2_with fail;go_ret;exact⟨by(rw[N.out,K])<;>rfl,j⟩
 have k5:(kd==5)=false:=by simpa using U
 by_cases Z:kd=6
 ·have N:Hid (R=decide (CB<=0)):=hZ9 (by rw[k.out];exact bM.2 ⟨λh=>by omega,λh=>.inr ⟨Z,h⟩⟩);subst Z;clear k H U;go_enter func160,ntmps160;go_wp2_with fail;refine b.mono ?_;rintro e w2 ⟨rfl,a⟩;have c:=g.trans (a.mono g.size);have d:=F.call a;have m:=G.below a;clear b y C p B o z q;obtain⟨y,C,p,B,o,z,q⟩:=d.seven;have E:=L _ m;clear L;go_wp2_with fail;refine E.mono ?_;rintro e w3 ⟨rfl,i⟩;have j:=c.trans (i.mono c.size);have T:=d.call i;clear E y C p B o z q;obtain⟨y,C,p,B,o,z,q⟩:=T.seven;by_cases S:CB<=0
  ·have K:decide (CB<=0)=true:=aI S;go_wp2_with fail;go_ret;exact⟨by(rw[N.out,K])<;>rfl,j⟩
  ·have K:decide (CB<=0)=false:=aB S;go_wp2_with fail;go_ret;exact⟨by(rw[N.out,K])<;>rfl,j⟩
 have k6:(kd==6)=false:=by simpa using Z
 have N:Hid (R=false):=hZ9 (by rw[k.out];exact aB (by omega));clear k H U Z;go_enter func160,ntmps160;go_wp2_with fail;refine b.mono ?_;rintro e w2 ⟨rfl,a⟩;have c:=g.trans (a.mono g.size);have d:=F.call a;have m:=G.below a;clear b y C p B o z q;obtain⟨y,C,p,B,o,z,q⟩:=d.seven;have E:=L _ m;clear L;go_wp2_with fail;refine E.mono ?_;rintro e w3 ⟨rfl,i⟩;have j:=c.trans (i.mono c.size);have T:=d.call i;clear E y C p B o z q;obtain⟨y,C,p,B,o,z,q⟩:=T.seven;go_wp2_with fail;go_ret;exact⟨by(rw[N.out])<;>rfl,j⟩
