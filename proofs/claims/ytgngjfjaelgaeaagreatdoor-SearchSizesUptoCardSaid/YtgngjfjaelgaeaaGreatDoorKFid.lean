/- The walks of what belongs to a filter's kind: own (the program's), bare (the document's). Conditions: as stated. -/
import Derived.Test.YtgngjfjaelgaeaaGreatDoorKFic
set_option maxRecDepth 100000
set_option maxHeartbeats 2000000
namespace Go.Proofs.YtgngjfjaelgaeaaGreatDoor
namespace FiS
theorem emp (s:List UInt8):s=[]\/(s.isEmpty=false/\(s==[])=false/\(s !=[])=true/\¬s=[]):=by
 cases s with
 | nil=>exact .inl rfl
 | cons c r=>exact .inr ⟨rfl,rfl,rfl,by simp⟩
def Gw (s:List UInt8):Bool:=!DX s
theorem ZV (l:List (List UInt8)):l.any Gw=!l.all DX:=by
 unfold Gw
 rw [List.any_eq_not_all_not]
 congr 2
 funext s
 simp
def Bf (k:Int) (E V P:Bool) (L F:Bool) (F2 L2 A:Bool) (O:Bool):Bool:=
 if k=0\/k=1 then E&&V&&!P
 else if k=2 then E&&V&&!P&&O
 else if k=3\/k=5\/k=6\/k=8 then L&&F&&!P
 else if k=7 then L&&V&&!P
 else if k=4 then L&&V&&P&&F2&&L2&&A
 else false
theorem AdL (k:Int) (a v f l:List UInt8) (s:List (List UInt8)) (n:Nat):PO k a v f l s n=Bf k a.isEmpty v.isEmpty (Hu f l s) (MU a n) (DX v) (decide (f.length<=200)) (decide (l.length<=200)) (s.all DX) (decide (n=1)):=rfl
def SQ (o:Option Nat):Int:=match o with | some i=>(i:Int) | none=>-1
theorem OQ {α:Type} {p:α->Bool}:∀{xs:List α} {k:Nat} (hk:k<xs.length),(∀x ∈ xs.take k,p x=false)->p xs[k]=true->xs.findIdx? p=some k
 | [],k,hk,_,_=>by simp at hk
 | x :: xs,0,_,_,hp=>by rw [List.findIdx?_cons,if_pos (show p x=true from hp)]
 | x :: xs,k+1,hk,h,hp=>by
  rw [List.findIdx?_cons,if_neg (by rw [h x (by simp)];simp),OQ (k:=k) (by simpa using hk) (fun y hy=>h y (by simp [hy])) (by simpa using hp)]
  rfl
theorem ZW {α:Type} {p:α->Bool} {xs:List α} (h:∀x ∈ xs,p x=false):xs.findIdx? p=none:=by
 rw [List.findIdx?_eq_none_iff];exact h
theorem ZX {α:Type} {p:α->Bool} {xs:List α} {k:Nat} (hk:k<xs.length) (h:∀x ∈ xs.take k,p x=false) (hp:p xs[k]=false):∀x ∈ xs.take (k+1),p x=false:=fun x hx=>by
 rw [List.take_succ_eq_append_getElem hk] at hx
 rcases List.mem_append.1 hx with hx | hx
 · exact h x hx
 · have:=List.mem_singleton.1 hx;subst this;exact hp
theorem Aco (o:Option Nat):decide (0<=SQ o)=o.isSome:=by
 cases o with
 | none=>rfl
 | some i=>simp [SQ]
theorem Acp {α:Type} (p:α->Bool) (l:List α):(l.findIdx? p).isSome=l.any p:=by
 rw [List.findIdx?_isSome]
end FiS
open Go.RowKit
def CH (b:Bool) (w:World) (e:Ending) (w':World):Prop:=e=.returned (.bool b)/\Below w.heap.size w w'
def Ad1 (o:Option Nat) (w:World) (e:Ending) (w':World):Prop:=e=.returned (.int .i64 (FiS.SQ o))/\Below w.heap.size w w'
open FiS (Fi)
theorem Acr (v:Value) (xs:List (List UInt8)) (w:World) (h:Ai w v xs) (hl:xs.length<=1048576):
  Calls Tryz.prog 157 #[v,.func (.func 156) #[] #[]] w (Ad1 (xs.findIdx? FiS.Gw) w):=by
 obtain ⟨a,c,rfl,hc,A6⟩:=Ae.at (h.strsP (fun _=>True) (fun _ _=>trivial))
 have A9:=hZ9 A6
 have HC:=fun x w=>Acn x w
 have A2:=hZ9 (fun k (hk:k<xs.length)=>FiS.OQ (p:=FiS.Gw) hk)
 have A1:=hZ9 (FiS.ZW (p:=FiS.Gw) (xs:=xs))
 have A7:=hZ9 (fun k (hk:k<xs.length)=>FiS.ZX (p:=FiS.Gw) hk)
 generalize xs.findIdx? FiS.Gw=R at*
 have HP:Hid (∀s,FiS.Gw s=!FiS.DX s):=hZ9 (fun _=>rfl)
 generalize FiS.Gw=p at*
 clear A6 h
 generalize A8:xs.length=m at hc hl⊢
 have HN:=hZ9 A8
 clear A8
 go_enter Tryz.func157,Tryz.ntmps157
 go_wp2_with fail
 go_loopw [8] (fun i wr=>∃k:Nat,k<=m/\i=.int .i64 k/\Hid (∀x ∈ xs.take k,p x=false)/\Below w.heap.size w wr) (fun i _=>m - (intOf i).toNat)
 case atStart=>exact ⟨0,Nat.zero_le _,rfl,hZ9 (fun x hx=>by cases hx),Below.refl _ _⟩
 case round=>
  obtain ⟨k,hk,rfl,HA,hb⟩:=hrel
  by_cases B0:k<m
  · have A0:k<xs.length:=by rw [HN.out];exact B0
    obtain ⟨g,o,rfl,hg,_,hra⟩:=A9.out k A0
    have c0:wr.cell? ⟨g,o+k,none⟩=some (Ac xs[k]):=by
     have:w.cell? ⟨g,o+k*1,none⟩=some (Ac xs[k]):=hra
     rw [Nat.mul_one] at this
     exact Ab this hb
    have HF:=hZ9 (A2.out k A0 HA.out)
    have HT:=hZ9 (A7.out k A0 HA.out)
    have A5:=hZ9 (HP.out xs[k])
    generalize xs[k]=x at*
    unfold Ac at c0
    have A3:=HC x wr
    clear hra A0 A2 A1 A7
    cases hq:p x with
    | true=>
     have HR:=hZ9 (HF.out hq)
     rw [<-A5.out,hq] at A3
     clear hq HF HT
     go_wp2_with fail
     refine A3.mono ?_;rintro e w1 ⟨rfl,rfl⟩
     go_wp2_with fail
     go_ret
     exact ⟨by rw [HR.out];rfl,hb⟩
    | false=>
     have HR:=hZ9 (HT.out hq)
     rw [<-A5.out,hq] at A3
     clear hq HF HT
     go_wp2_with fail
     refine A3.mono ?_;rintro e w1 ⟨rfl,rfl⟩
     go_wp2_with fail
     go_roundw
     case rel=>exact ⟨k+1,by omega,by go_num,HR,hb⟩
     case measure=>simp [intOf];omega
  · have A4:Hid (R=none):=hZ9 (A1.out (by have:=HA.out;rwa [List.take_of_length_le (by rw [HN.out];omega)] at this))
    go_wp2_with fail
    go_ret
    exact ⟨by rw [A4.out];rfl,hb⟩
theorem Acs (v:Value) (xs:List (List UInt8)) (w:World) (h:Ai w v xs) (hl:xs.length<=1048576):
  Calls Tryz.prog 155 #[v,.func (.func 156) #[] #[]] w (CH (!xs.all FiS.DX) w):=by
 have hi:=Acr v xs w h hl
 unfold Ad1 at hi
 have HR:Hid ((!xs.all FiS.DX)=(xs.findIdx? FiS.Gw).isSome):=hZ9 (by rw [FiS.Acp,FiS.ZV])
 generalize (!xs.all FiS.DX)=R at*
 generalize xs.findIdx? FiS.Gw=I at*
 have HI:=hZ9 (FiS.Aco I)
 generalize FiS.SQ I=z at*
 obtain ⟨a,c,rfl⟩:=h.form
 go_enter Tryz.func155,Tryz.ntmps155
 go_wp2_with fail
 refine hi.mono ?_;rintro e w1 ⟨rfl,A0⟩
 go_wp2_with fail
 go_ret
 exact ⟨by rw [HR.out,<-HI.out];rfl,A0⟩
theorem Afg (n:Nat) (x:Fi) (v:Value) (w:World) (h:Dq n w v x) (A9:x.attr.length<=20000) (A6:x.any.length<=1048576):Calls Tryz.prog 124 #[v] w (CH (FiS.KV x) w):=by
 unfold CH
 obtain ⟨kd,A1,vl,fs,ls,an,ps⟩:=x
 obtain ⟨a5,c5,a6,c6,hv,B8,B4,B5⟩:=FiV.parts h
 have hv:v=.agg #[.int .i64 kd,.string ⟨A1.toArray⟩,.string ⟨vl.toArray⟩,.string ⟨fs.toArray⟩,.string ⟨ls.toArray⟩,.slice a5 an.length c5,.slice a6 ps.length c6]:=hv
 subst hv
 have B8:Ai w (.slice a5 an.length c5) an:=B8
 have B4:ps.length<=c6:=B4
 have B5:BR n (fun _=>True) w (.slice a6 ps.length c6) ps:=B5
 have A9:A1.length<=20000:=A9
 have A6:an.length<=1048576:=A6
 have hN:FiS.KV (.mk kd A1 vl fs ls an ps)=FiS.PO kd A1 vl fs ls an ps.length:=rfl
 rw [hN]
 clear hN
 obtain ⟨AL,B6⟩:∃m,an.length=m:=⟨_,rfl⟩
 obtain ⟨PL,B7⟩:∃m,ps.length=m:=⟨_,rfl⟩
 have E1:=hZ9 B6
 have E2:=hZ9 B7
 rw [B6] at B8
 rw [B7] at B4 B5
 try rw [B6]
 try rw [B7]
 rw [FiS.AdL]
 have D8:=Af w (.cells #[.int .i64 kd,.string ⟨A1.toArray⟩,.string ⟨vl.toArray⟩,.string ⟨fs.toArray⟩,.string ⟨ls.toArray⟩,.slice a5 AL c5,.slice a6 PL c6] 36)
 have C3:=Whole.made w 36 #[.int .i64 kd,.string ⟨A1.toArray⟩,.string ⟨vl.toArray⟩,.string ⟨fs.toArray⟩,.string ⟨ls.toArray⟩,.slice a5 AL c5,.slice a6 PL c6]
 have A3:=fun w=>VQ A1 A9 w
 have A2:=fun w=>ZU vl w
 have A4:Hid (FiS.Hu fs ls an=(!fs.isEmpty||!ls.isEmpty||decide (0<AL))):=hZ9 (by rw [<-E1.out];rfl)
 have B0:Hid (FiS.MU A1 PL=(decide (PL=0)&&FiS.KU A1)):=hZ9 rfl
 obtain ⟨P,hP⟩:∃b,FiS.Hu fs ls an=b:=⟨_,rfl⟩
 obtain ⟨L,hL⟩:∃b,FiS.MU A1 PL=b:=⟨_,rfl⟩
 obtain ⟨AT,D9⟩:∃b,FiS.KU A1=b:=⟨_,rfl⟩
 obtain ⟨FT,D6⟩:∃b,FiS.DX vl=b:=⟨_,rfl⟩
 obtain ⟨AA,C1⟩:∃b,an.all FiS.DX=b:=⟨_,rfl⟩
 rw [hP] at A4⊢
 rw [hL] at B0⊢
 rw [D9] at B0 A3
 rw [D6] at A2⊢
 rw [C1]
 have E0:=hZ9 C1
 clear hP hL D9 D6 C1
 have A7:∀s:List UInt8,decide ((s.length:Int)<=200)=decide (s.length<=200):=fun s=>decide_eq_decide.2 (by omega)
 obtain ⟨F2,C0⟩:∃b,decide (fs.length<=200)=b:=⟨_,rfl⟩
 obtain ⟨L2,C7⟩:∃b,decide (ls.length<=200)=b:=⟨_,rfl⟩
 have D4:decide ((fs.length:Int)<=200)=F2:=(A7 fs).trans C0
 have C8:decide ((ls.length:Int)<=200)=L2:=(A7 ls).trans C7
 rw [C0,C7]
 clear C0 C7 A7
 obtain ⟨O,hO⟩:∃b,decide (PL=1)=b:=⟨_,rfl⟩
 have D0:((PL:Int)==1)=O:=by rw [<-hO];by_cases h:PL=1 <;> simp [h] <;> omega
 rw [hO]
 clear hO
 obtain ⟨q0,q1,q2,q3,q4,q5,q6⟩:=C3.seven
 have A8:=fun W (hb:Below w.heap.size w W)=>Acs (.slice a5 AL c5) an W (B8.call hb (Nat.le_refl _)) A6
 unfold CH at A8
 have A5:∀W,Below w.heap.size w W->Calls Tryz.prog 155 #[.slice a5 AL c5,.func (.func 156) #[] #[]] W fun e w'=>e=.returned (.bool (!AA))/\Below W.heap.size W w':=fun W hb=>by have:=A8 W hb;rwa [E0.out] at this
 clear A8
 obtain ⟨R,C4⟩:∃b,FiS.Bf kd A1.isEmpty vl.isEmpty P L FT F2 L2 AA O=b:=⟨_,rfl⟩
 rw [C4]
 have A0:=hZ9 C4
 clear C4 h B5 B6 B7 B4
 have HW:=hZ9 C3
 clear C3
 go_enter Tryz.func124,Tryz.ntmps124
 go_upto_region 1 with fail
 go_cut [3] (fun b wd=>b=.bool P/\wd=(w.alloc (.cells #[.int .i64 kd,.string ⟨A1.toArray⟩,.string ⟨vl.toArray⟩,.string ⟨fs.toArray⟩,.string ⟨ls.toArray⟩,.slice a5 AL c5,.slice a6 PL c6] 36)))
 case first=>
  clear A3 A2 D4 C8 D0
  rcases FiS.emp fs with rfl | ⟨f1,f2,f3,f4⟩
  · rcases FiS.emp ls with rfl | ⟨l1,l2,l3,l4⟩
    · have B1:Hid (P=decide ((0:Int)<(AL:Int))):=hZ9 (by rw [A4.out];show (false||false||decide (0<AL))=_;simp)
      clear A4
      go_wp2_with fail
      go_meet
      exact ⟨by rw [B1.out];first | rfl | simp,rfl⟩
    · have B1:Hid (P=true):=hZ9 (by rw [A4.out,l1];simp)
      clear A4
      go_wp2_with fail
      go_meet
      exact ⟨by rw [B1.out],rfl⟩
  · have B1:Hid (P=true):=hZ9 (by rw [A4.out,f1];simp)
    clear A4
    go_wp2_with fail
    go_meet
    exact ⟨by rw [B1.out],rfl⟩
 case rest=>
  obtain ⟨rfl,rfl⟩:=hcut
  have B3:=D8
  clear A4 D8
  go_upto_region 2 with fail
  go_cut [4] (fun b wd=>b=.bool L/\Whole wd w.heap.size 36 #[.int .i64 kd,.string ⟨A1.toArray⟩,.string ⟨vl.toArray⟩,.string ⟨fs.toArray⟩,.string ⟨ls.toArray⟩,.slice a5 AL c5,.slice a6 PL c6]/\Below w.heap.size w wd)
  case first=>
   clear A2 D4 C8 D0 A5
   by_cases h0:PL=0
   · have C5:Hid (L=AT):=hZ9 (by rw [B0.out,decide_eq_true h0,Bool.true_and])
     subst h0
     clear B0
     have hc:=A3 (w.alloc (.cells #[.int .i64 kd,.string ⟨A1.toArray⟩,.string ⟨vl.toArray⟩,.string ⟨fs.toArray⟩,.string ⟨ls.toArray⟩,.slice a5 AL c5,.slice a6 0 c6] 36))
     go_wp2_with fail
     refine hc.mono ?_;rintro e w2 ⟨rfl,B2⟩
     go_wp2_with fail
     go_meet
     exact ⟨by rw [C5.out],HW.out.call B2,B3.trans (B2.mono B3.size)⟩
   · have C5:Hid (L=false):=hZ9 (by rw [B0.out,decide_eq_false h0,Bool.false_and])
     have h00:((PL:Int)==0)=false:=by simp;omega
     clear B0
     go_wp2_with fail
     go_meet
     exact ⟨by rw [C5.out],HW.out,B3⟩
  case rest=>
   obtain ⟨rfl,hw,hb⟩:=hcut
   clear B3 B0 HW q0 q1 q2 q3 q4 q5 q6 A3
   obtain ⟨q0,q1,q2,q3,q4,q5,q6⟩:=hw.seven
   by_cases C9:kd=0
   · subst C9
     rcases FiS.emp A1 with rfl | ⟨x1,x2,x3,x4⟩
     · rcases FiS.emp vl with rfl | ⟨y1,y2,y3,y4⟩
       · cases P
         · have HR:Hid (R=true):=hZ9 (by rw [<-A0.out];simp [FiS.Bf])
           clear A0
           go_wp2_with fail
           go_ret
           exact ⟨by (rw [HR.out]) <;> rfl,hb⟩
         · have HR:Hid (R=false):=hZ9 (by rw [<-A0.out];simp [FiS.Bf])
           clear A0
           go_wp2_with fail
           go_ret
           exact ⟨by (rw [HR.out]) <;> rfl,hb⟩
       · have HR:Hid (R=false):=hZ9 (by rw [<-A0.out];simp [FiS.Bf,y1])
         clear A0
         go_wp2_with fail
         go_ret
         exact ⟨by (rw [HR.out]) <;> rfl,hb⟩
     · have HR:Hid (R=false):=hZ9 (by rw [<-A0.out];simp [FiS.Bf,x1])
       clear A0
       go_wp2_with fail
       go_ret
       exact ⟨by (rw [HR.out]) <;> rfl,hb⟩
   by_cases D3:kd=1
   · subst D3
     rcases FiS.emp A1 with rfl | ⟨x1,x2,x3,x4⟩
     · rcases FiS.emp vl with rfl | ⟨y1,y2,y3,y4⟩
       · cases P
         · have HR:Hid (R=true):=hZ9 (by rw [<-A0.out];simp [FiS.Bf])
           clear A0
           go_wp2_with fail
           go_ret
           exact ⟨by (rw [HR.out]) <;> rfl,hb⟩
         · have HR:Hid (R=false):=hZ9 (by rw [<-A0.out];simp [FiS.Bf])
           clear A0
           go_wp2_with fail
           go_ret
           exact ⟨by (rw [HR.out]) <;> rfl,hb⟩
       · have HR:Hid (R=false):=hZ9 (by rw [<-A0.out];simp [FiS.Bf,y1])
         clear A0
         go_wp2_with fail
         go_ret
         exact ⟨by (rw [HR.out]) <;> rfl,hb⟩
     · have HR:Hid (R=false):=hZ9 (by rw [<-A0.out];simp [FiS.Bf,x1])
       clear A0
       go_wp2_with fail
       go_ret
       exact ⟨by (rw [HR.out]) <;> rfl,hb⟩
   by_cases C6:kd=2
   · subst C6
     rcases FiS.emp A1 with rfl | ⟨x1,x2,x3,x4⟩
     · rcases FiS.emp vl with rfl | ⟨y1,y2,y3,y4⟩
       · cases P
         · have HR:Hid (R=O):=hZ9 (by rw [<-A0.out];simp [FiS.Bf])
           clear A0
           go_wp2_with fail
           go_ret
           exact ⟨by (rw [HR.out]) <;> rfl,hb⟩
         · have HR:Hid (R=false):=hZ9 (by rw [<-A0.out];simp [FiS.Bf])
           clear A0
           go_wp2_with fail
           go_ret
           exact ⟨by (rw [HR.out]) <;> rfl,hb⟩
       · have HR:Hid (R=false):=hZ9 (by rw [<-A0.out];simp [FiS.Bf,y1])
         clear A0
         go_wp2_with fail
         go_ret
         exact ⟨by (rw [HR.out]) <;> rfl,hb⟩
     · have HR:Hid (R=false):=hZ9 (by rw [<-A0.out];simp [FiS.Bf,x1])
       clear A0
       go_wp2_with fail
       go_ret
       exact ⟨by (rw [HR.out]) <;> rfl,hb⟩
   by_cases D7:kd=3
   · subst D7
     have hc:=A2 wc
     cases L with
     | true=>
      cases FT with
      | true=>
       have HR:Hid (R=!P):=hZ9 (by rw [<-A0.out];simp [FiS.Bf])
       clear A0
       go_wp2_with fail
       refine hc.mono ?_;rintro e w2 ⟨rfl,rfl⟩
       go_wp2_with fail
       go_ret
       exact ⟨by (rw [HR.out]) <;> rfl,hb⟩
      | false=>
       have HR:Hid (R=false):=hZ9 (by rw [<-A0.out];simp [FiS.Bf])
       clear A0
       go_wp2_with fail
       refine hc.mono ?_;rintro e w2 ⟨rfl,rfl⟩
       go_wp2_with fail
       go_ret
       exact ⟨by (rw [HR.out]) <;> rfl,hb⟩
     | false=>
      have HR:Hid (R=false):=hZ9 (by rw [<-A0.out];simp [FiS.Bf])
      clear A0
      go_wp2_with fail
      go_ret
      exact ⟨by (rw [HR.out]) <;> rfl,hb⟩
   by_cases D5:kd=5
   · subst D5
     have hc:=A2 wc
     cases L with
     | true=>
      cases FT with
      | true=>
       have HR:Hid (R=!P):=hZ9 (by rw [<-A0.out];simp [FiS.Bf])
       clear A0
       go_wp2_with fail
       refine hc.mono ?_;rintro e w2 ⟨rfl,rfl⟩
       go_wp2_with fail
       go_ret
       exact ⟨by (rw [HR.out]) <;> rfl,hb⟩
      | false=>
       have HR:Hid (R=false):=hZ9 (by rw [<-A0.out];simp [FiS.Bf])
       clear A0
       go_wp2_with fail
       refine hc.mono ?_;rintro e w2 ⟨rfl,rfl⟩
       go_wp2_with fail
       go_ret
       exact ⟨by (rw [HR.out]) <;> rfl,hb⟩
     | false=>
      have HR:Hid (R=false):=hZ9 (by rw [<-A0.out];simp [FiS.Bf])
      clear A0
      go_wp2_with fail
      go_ret
      exact ⟨by (rw [HR.out]) <;> rfl,hb⟩
   by_cases D2:kd=6
   · subst D2
     have hc:=A2 wc
     cases L with
     | true=>
      cases FT with
      | true=>
       have HR:Hid (R=!P):=hZ9 (by rw [<-A0.out];simp [FiS.Bf])
       clear A0
       go_wp2_with fail
       refine hc.mono ?_;rintro e w2 ⟨rfl,rfl⟩
       go_wp2_with fail
       go_ret
       exact ⟨by (rw [HR.out]) <;> rfl,hb⟩
      | false=>
       have HR:Hid (R=false):=hZ9 (by rw [<-A0.out];simp [FiS.Bf])
       clear A0
       go_wp2_with fail
       refine hc.mono ?_;rintro e w2 ⟨rfl,rfl⟩
       go_wp2_with fail
       go_ret
       exact ⟨by (rw [HR.out]) <;> rfl,hb⟩
     | false=>
      have HR:Hid (R=false):=hZ9 (by rw [<-A0.out];simp [FiS.Bf])
      clear A0
      go_wp2_with fail
      go_ret
      exact ⟨by (rw [HR.out]) <;> rfl,hb⟩
   by_cases D1:kd=8
   · subst D1
     have hc:=A2 wc
     cases L with
     | true=>
      cases FT with
      | true=>
       have HR:Hid (R=!P):=hZ9 (by rw [<-A0.out];simp [FiS.Bf])
       clear A0
       go_wp2_with fail
       refine hc.mono ?_;rintro e w2 ⟨rfl,rfl⟩
       go_wp2_with fail
       go_ret
       exact ⟨by (rw [HR.out]) <;> rfl,hb⟩
      | false=>
       have HR:Hid (R=false):=hZ9 (by rw [<-A0.out];simp [FiS.Bf])
       clear A0
       go_wp2_with fail
       refine hc.mono ?_;rintro e w2 ⟨rfl,rfl⟩
       go_wp2_with fail
       go_ret
       exact ⟨by (rw [HR.out]) <;> rfl,hb⟩
     | false=>
      have HR:Hid (R=false):=hZ9 (by rw [<-A0.out];simp [FiS.Bf])
      clear A0
      go_wp2_with fail
      go_ret
      exact ⟨by (rw [HR.out]) <;> rfl,hb⟩
   by_cases C2:kd=7
   · subst C2
     cases L with
     | true=>
      rcases FiS.emp vl with rfl | ⟨y1,y2,y3,y4⟩
      · have HR:Hid (R=!P):=hZ9 (by rw [<-A0.out];simp [FiS.Bf])
        clear A0
        go_wp2_with fail
        go_ret
        exact ⟨by (rw [HR.out]) <;> rfl,hb⟩
      · have HR:Hid (R=false):=hZ9 (by rw [<-A0.out];simp [FiS.Bf,y1])
        clear A0
        go_wp2_with fail
        go_ret
        exact ⟨by (rw [HR.out]) <;> rfl,hb⟩
     | false=>
      have HR:Hid (R=false):=hZ9 (by rw [<-A0.out];simp [FiS.Bf])
      clear A0
      go_wp2_with fail
      go_ret
      exact ⟨by (rw [HR.out]) <;> rfl,hb⟩
   by_cases B9:kd=4
   · subst B9
     have hc:=A5 wc hb
     cases L with
     | true=>
      rcases FiS.emp vl with rfl | ⟨y1,y2,y3,y4⟩
      · cases P with
        | false=>
         have HR:Hid (R=false):=hZ9 (by rw [<-A0.out];simp [FiS.Bf])
         clear A0
         go_wp2_with fail
         go_ret
         exact ⟨by (rw [HR.out]) <;> rfl,hb⟩
        | true=>
         cases F2 with
         | false=>
          have HR:Hid (R=false):=hZ9 (by rw [<-A0.out];simp [FiS.Bf])
          clear A0
          go_wp2_with fail
          go_ret
          exact ⟨by (rw [HR.out]) <;> rfl,hb⟩
         | true=>
          cases L2 with
          | false=>
           have HR:Hid (R=false):=hZ9 (by rw [<-A0.out];simp [FiS.Bf])
           clear A0
           go_wp2_with fail
           go_ret
           exact ⟨by (rw [HR.out]) <;> rfl,hb⟩
          | true=>
           have HR:Hid (R=AA):=hZ9 (by rw [<-A0.out];simp [FiS.Bf])
           clear A0
           go_wp2_with fail
           refine hc.mono ?_;rintro e w2 ⟨rfl,B2⟩
           go_wp2_with fail
           go_ret
           exact ⟨by rw [HR.out];(try rw [Bool.not_not]) <;> rfl,hb.trans (B2.mono hb.size)⟩
      · have HR:Hid (R=false):=hZ9 (by rw [<-A0.out];simp [FiS.Bf,y1])
        clear A0
        go_wp2_with fail
        go_ret
        exact ⟨by (rw [HR.out]) <;> rfl,hb⟩
     | false=>
      have HR:Hid (R=false):=hZ9 (by rw [<-A0.out];simp [FiS.Bf])
      clear A0
      go_wp2_with fail
      go_ret
      exact ⟨by (rw [HR.out]) <;> rfl,hb⟩
   have HR:Hid (R=false):=hZ9 (by rw [<-A0.out];unfold FiS.Bf;rw [if_neg (by omega),if_neg C6,if_neg (by omega),if_neg C2,if_neg B9])
   clear A0
   have k0:(kd==0)=false:=by simpa using C9
   have k1:(kd==1)=false:=by simpa using D3
   have k2:(kd==2)=false:=by simpa using C6
   have k3:(kd==3)=false:=by simpa using D7
   have k4:(kd==4)=false:=by simpa using B9
   have k5:(kd==5)=false:=by simpa using D5
   have k6:(kd==6)=false:=by simpa using D2
   have k7:(kd==7)=false:=by simpa using C2
   have k8:(kd==8)=false:=by simpa using D1
   go_wp2_with fail
   go_ret
   exact ⟨by (rw [HR.out]) <;> rfl,hb⟩
end Go.Proofs.YtgngjfjaelgaeaaGreatDoor
