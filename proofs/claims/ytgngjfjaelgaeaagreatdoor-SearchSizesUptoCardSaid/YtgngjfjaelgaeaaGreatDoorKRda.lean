/- The walks of 'Formed' of a part. Conditions: as stated. -/
import Derived.Deep.DrawnRows
import Derived.Deep.RegionHeld3
import Derived.Test.YtgngjfjaelgaeaaGreatDoorKAva
import Derived.Test.YtgngjfjaelgaeaaGreatDoorKRue
set_option maxRecDepth 100000
set_option maxHeartbeats 8000000
namespace Go.Proofs.YtgngjfjaelgaeaaGreatDoor
section
open Go.RowKit
def Ji (xs:List RdS.Pr) (w:World) (e:Ending) (w':World):Prop:=e=.returned (.bool (RdS.formedS xs))/\Below w.heap.size w w'
def AeQ (xs:List RdS.Pr) (w:World) (l i:Value) (wr:World):Prop:=
 ∃k:Nat,k<=xs.length/\i=.int .i64 k/\l=.string ⟨(RdS.DU xs k).toArray⟩/\RdS.Ib xs k=true/\Below w.heap.size w wr
def Es (xs:List RdS.Pr):Prop:=∀p ∈ xs,p.1.length<=9223372036854775807/\p.2.length<=9223372036854775807
theorem KP (v:Value) (xs:List RdS.Pr) (w:World) (h:AK w v xs) (hf:Es xs) (hE:Env w):Calls Tryz.prog 141 #[v] w (Ji xs w):=by
 obtain ⟨a,c,rfl,hc,h⟩:=h
 have HF:=hZ9 (RdS.Nv xs)
 rcases h with rfl | ⟨g,o,rfl,hg,h⟩
 · go_enter Tryz.func141,Tryz.ntmps141
   go_wp2_with fail
   go_ret
   exact ⟨rfl,Below.refl _ _⟩
 · have H:=hZ9 h
   have C2:=hZ9 hf
   generalize hn:xs.length=n at*
   have HN:=hZ9 hn
   clear h hf hn
   by_cases B8:n=0
   · subst B8
     go_enter Tryz.func141,Tryz.ntmps141
     go_wp2_with fail
     go_ret
     exact ⟨by rw [HF.out];rfl,Below.refl _ _⟩
   by_cases C0:3<n
   · have HB:Hid (decide (n<=3)=false):=hZ9 (decide_eq_false (by omega))
     have hz:((n:Int)==0)=false:=beq_eq_false_iff_ne.2 (by omega)
     go_enter Tryz.func141,Tryz.ntmps141
     go_wp2_with fail
     go_ret
     exact ⟨by rw [HF.out,HB.out];simp,Below.refl _ _⟩
   have hz:((n:Int)==0)=false:=beq_eq_false_iff_ne.2 (by omega)
   have HB:Hid (decide (1<=n)=true/\decide (n<=3)=true):=hZ9 ⟨decide_eq_true (by omega),decide_eq_true (by omega)⟩
   have D0:decide ((3:Int)<(n:Int))=false:=decide_eq_false (by omega)
   have C6:n<=3:=by omega
   clear B8 C0
   go_enter Tryz.func141,Tryz.ntmps141
   go_wp2_with fail
   go_loopw [3,20] (fun l i wr=>AeQ xs w l i wr) (fun _ i _=>n - (intOf i).toNat)
   case atStart=>exact ⟨0,Nat.zero_le _,rfl,rfl,rfl,Below.refl _ _⟩
   case round=>
    obtain ⟨k,hk,rfl,rfl,B7,hb⟩:=hrel
    rw [HN.out] at hk
    have B5:=hZ9 B7
    clear B7
    by_cases B6:k<n
    · have A2:k<xs.length:=by rw [HN.out];exact B6
      obtain ⟨c0,c1⟩:=H.out k _ (List.getElem?_eq_getElem A2)
      have B3:=hZ9 (RdS.Jf xs k A2)
      have C1:=hZ9 (RdS.KG xs k A2)
      have C3:=hZ9 (fun hp n hn=>RdS.Ph A2 hp n hn)
      obtain ⟨f1,f2⟩:=C2.out _ (List.getElem_mem A2)
      generalize xs[k]=p at*
      obtain ⟨t,u⟩:=p
      simp only at c0 c1 f1 f2
      replace c0:wr.cell? ⟨g,o+k*2,none⟩=some (Ac t):=(hb.cell (p:=⟨g,o+k*2,none⟩) hg).trans c0
      replace c1:wr.cell? ⟨g,o+k*2+1,none⟩=some (Ac u):=(hb.cell (p:=⟨g,o+k*2+1,none⟩) hg).trans c1
      unfold Ac at c0 c1
      have A9:Hid (RdS.Cb (RdS.DU xs k) (t,u)=false->RdS.formedS xs=false):=hZ9 (fun hp=>by
       rw [HF.out,C3.out hp n B6,Bool.and_false])
      have A4:=fun w=>FW ⟨t.toArray⟩ f1 w
      unfold Am at A4
      have dt:(⟨t.toArray⟩:ByteArray).data.toList=t:=rfl
      rw [dt] at A4
      clear dt
      have HP:Hid (RdS.Cb (RdS.DU xs k) (t,u)=(((RuS.typeOf t).1==t)&&((RuS.typeOf t).2==1||(RuS.typeOf t).2==3)&&Op.bytesLess (RdS.DU xs k) t&&((RuS.normal t u).2==0))):=hZ9 rfl
      generalize RdS.DU xs k=last at*
      generalize RuS.typeOf t=r at*
      obtain ⟨t',sy⟩:=r
      simp only at A4
      have A1:=hb
      cases q1:(t'==t) with
      | false=>
       have Q1:=hZ9 q1
       go_wp2_with fail
       refine (A4 _).mono ?_;rintro e w1 ⟨rfl,A0⟩
       have d0:w1.cell? ⟨wr.heap.size,0,none⟩=some (.string ⟨t.toArray⟩):=Ab (by go_simp) A0
       go_wp2_with fail
       go_ret
       exact ⟨by rw [A9.out (by rw [HP.out];simp only [Q1.out];rfl)];rfl,(A1.alloc A1.size _).trans (A0.mono (by have:=A1.size;simp;omega))⟩
      | true=>
       have e1:=beq_iff_eq.1 q1
       subst e1
       clear q1
       have C8:t'.length<=9223372036854775807:=f1
       by_cases q2:sy=1\/sy=3
       · have C4:=RuS.compare_range last t'
         have A7:=RuS.less_iff last t'
         have A3:=RuS.less_iff t' last
         have B0:=RuS.eq_iff t' last
         have B9:=RuS.compare_swap last t'
         rw [B9] at A3 B0
         generalize Lib.compareBytes last t'=cb at*
         have B1:cb=-1\/cb=0\/cb=1:=by omega
         have Q2:Hid ((sy==1||sy==3)=true):=hZ9 (by rcases q2 with rfl | rfl <;> rfl)
         clear B9 C4
         have A8:=fun w hE=>EX ⟨t'.toArray⟩ ⟨u.toArray⟩ f1 f2 w hE
         unfold Ba at A8
         have du:∀l:List UInt8,(⟨l.toArray⟩:ByteArray).data.toList=l:=fun _=>rfl
         rw [du,du] at A8
         clear du
         generalize RuS.normal t' u=nr at*
         obtain ⟨x,e0⟩:=nr
         simp only at A8
         rcases B1 with rfl | B1
         · simp only [Int.reduceNeg,decide_true,Int.reduceEq,decide_false,Int.neg_neg] at A7 A3 B0
           have A6:=hZ9 A7
           clear A7
           by_cases q4:e0=0
           · subst q4
             rcases q2 with rfl | rfl
             all_goals
              go_wp2_with fail
              refine (A4 _).mono ?_;rintro e w1 ⟨rfl,A0⟩
              have d0:w1.cell? ⟨wr.heap.size,0,none⟩=some (.string ⟨t'.toArray⟩):=Ab (by go_simp) A0
              have d1:w1.cell? ⟨wr.heap.size,1,none⟩=some (.string ⟨u.toArray⟩):=Ab (by go_simp) A0
              have A5:Below w.heap.size w w1:=(A1.alloc A1.size _).trans (A0.mono (by have:=A1.size;simp;omega))
              go_wp2_with fail
              refine (A8 _ (hE.below A5)).mono ?_;rintro e w2 ⟨rfl,B4⟩
              have B2:Below w.heap.size w w2:=A5.trans (B4.mono A5.size)
              go_wp2_with fail
              go_roundw
              case rel=>exact ⟨k+1,by rw [HN.out];omega,by go_num,by rw [C1.out],by rw [B3.out,B5.out,HP.out];simp [A6.out],B2⟩
              case measure=>simp [intOf];omega
           · have C7:(e0==0)=false:=by simpa using q4
             have C9:(e0 !=0)=true:=by simpa using q4
             have Q4:=hZ9 C7
             clear q4
             rcases q2 with rfl | rfl
             all_goals
              go_wp2_with fail
              refine (A4 _).mono ?_;rintro e w1 ⟨rfl,A0⟩
              have d0:w1.cell? ⟨wr.heap.size,0,none⟩=some (.string ⟨t'.toArray⟩):=Ab (by go_simp) A0
              have d1:w1.cell? ⟨wr.heap.size,1,none⟩=some (.string ⟨u.toArray⟩):=Ab (by go_simp) A0
              have A5:Below w.heap.size w w1:=(A1.alloc A1.size _).trans (A0.mono (by have:=A1.size;simp;omega))
              go_wp2_with fail
              refine (A8 _ (hE.below A5)).mono ?_;rintro e w2 ⟨rfl,B4⟩
              have B2:Below w.heap.size w w2:=A5.trans (B4.mono A5.size)
              go_wp2_with fail
              go_ret
              exact ⟨by rw [A9.out (by rw [HP.out];simp only [Q4.out,Bool.and_false])];rfl,B2⟩
         · have A6:Hid (Op.bytesLess last t'=false):=hZ9 (by rw [A7,decide_eq_false (by omega)])
           have D1:(Op.bytesLess t' last||t'==last)=true:=by
            rw [A3,B0]
            rcases B1 with rfl | rfl <;> rfl
           clear A7 A3 B0 B1
           rcases q2 with rfl | rfl
           all_goals
            go_wp2_with fail
            refine (A4 _).mono ?_;rintro e w1 ⟨rfl,A0⟩
            have d0:w1.cell? ⟨wr.heap.size,0,none⟩=some (.string ⟨t'.toArray⟩):=Ab (by go_simp) A0
            go_wp2_with fail
            all_goals go_ret
            all_goals exact ⟨by rw [A9.out (by rw [HP.out];simp only [A6.out,Bool.and_false,Bool.false_and])];rfl,(A1.alloc A1.size _).trans (A0.mono (by have:=A1.size;simp;omega))⟩
       · have g1:(sy !=1)=true:=by simp;omega
         have g3:(sy !=3)=true:=by simp;omega
         have Q2:Hid ((sy==1||sy==3)=false):=hZ9 (by simp;omega)
         clear q2
         go_wp2_with fail
         refine (A4 _).mono ?_;rintro e w1 ⟨rfl,A0⟩
         have d0:w1.cell? ⟨wr.heap.size,0,none⟩=some (.string ⟨t'.toArray⟩):=Ab (by go_simp) A0
         go_wp2_with fail
         go_ret
         exact ⟨by rw [A9.out (by rw [HP.out];simp only [Q2.out,Bool.and_false,Bool.false_and])];rfl,(A1.alloc A1.size _).trans (A0.mono (by have:=A1.size;simp;omega))⟩
    · have C5:k=n:=by omega
      subst C5
      go_wp2_with fail
      go_ret
      exact ⟨by rw [HF.out,B5.out,HB.out.1,HB.out.2];rfl,hb⟩
end
section
open Go.RowKit
attribute [local go_sem ↓] Go.wp_at_zero Go.wp_at_succ
def AaH (B b:Nat) (l0 v:List UInt8) (w:World) (i:Value) (wr:World):Prop:=∃k:Nat,k<=v.length/\i=.int .i64 k/\Bld B b (l0++RdS.CX v k) wr/\Below B w wr/\Others b w wr
theorem Ll (c:UInt8):decide (0<=Lib.indexByte RdS.Eb c)=RdS.Ar c:=by
 have h:=RuS.indexByte_none RdS.Eb c
 unfold RdS.Ar
 rw [Bool.eq_iff_iff,decide_eq_true_eq,List.contains_iff_mem]
 constructor
 · intro h1;exact Decidable.byContradiction fun hn=>by have:=h.2 hn;omega
 · intro h1;have:¬Lib.indexByte RdS.Eb c<0:=fun hn=>h.1 hn h1
   omega
theorem BC {f l:Bool} {c:UInt8} (h:(RdS.Ar c||(c==32&&(f||l))||(c==35&&f))=true):RdS.Bd f l c=[92,c]:=by
 unfold RdS.Bd;rw [if_pos h]
theorem IL {f l:Bool} {c:UInt8} (h:(RdS.Ar c||(c==32&&(f||l))||(c==35&&f))=false) (h2:(decide (c.toNat<32)||decide (126<c.toNat))=true):
  RdS.Bd f l c=[92,RdS.Bj (c.toNat / 16),RdS.Bj (c.toNat % 16)]:=by
 unfold RdS.Bd;rw [if_neg (by rw [h];decide),if_pos h2]
theorem DW {f l:Bool} {c:UInt8} (h:(RdS.Ar c||(c==32&&(f||l))||(c==35&&f))=false) (h2:(decide (c.toNat<32)||decide (126<c.toNat))=false):RdS.Bd f l c=[c]:=by
 unfold RdS.Bd;rw [if_neg (by rw [h];decide),if_neg (by rw [h2];decide)]
theorem PD {c d:UInt8} {n:Int} (hn:(d.toNat:Int)=n):((c.toNat:Int)==n)=(c==d):=by
 rw [Bool.eq_iff_iff,beq_iff_eq,beq_iff_eq,<-hn]
 exact ⟨fun h=>UInt8.toNat_inj.1 (by omega),fun h=>by rw [h]⟩
theorem Xi (n:Nat) (h:n<16) (w:World):(Instr.index 9 (.string ⟨#[48,49,50,51,52,53,54,55,56,57,97,98,99,100,101,102]⟩) (.int .u8 (n:Int))).run Tryz.prog w=.ok (.int .u8 ((RdS.Bj n).toNat:Int)) w:=by
 have hn:n=0\/n=1\/n=2\/n=3\/n=4\/n=5\/n=6\/n=7\/n=8\/n=9\/n=10\/n=11\/n=12\/n=13\/n=14\/n=15:=by omega
 rcases hn with rfl | rfl | rfl | rfl | rfl | rfl | rfl | rfl | rfl | rfl | rfl | rfl | rfl | rfl | rfl | rfl <;> (show _=_;kernel_rfl)
theorem Md (c:UInt8) (w:World):(Instr.index 9 (.string ⟨#[48,49,50,51,52,53,54,55,56,57,97,98,99,100,101,102]⟩) (.int .u8 ((c.toNat:Int) / 16))).run Tryz.prog w=.ok (.int .u8 ((RdS.Bj (c.toNat / 16)).toNat:Int)) w:=by
 have h:=Xi (c.toNat / 16) (by have:=c.toNat_lt;omega) w
 rw [show ((c.toNat / 16:Nat):Int)=(c.toNat:Int) / 16 from by omega] at h
 exact h
theorem Me (c:UInt8) (w:World):(Instr.index 9 (.string ⟨#[48,49,50,51,52,53,54,55,56,57,97,98,99,100,101,102]⟩) (.int .u8 ((c.toNat:Int) % 16))).run Tryz.prog w=.ok (.int .u8 ((RdS.Bj (c.toNat % 16)).toNat:Int)) w:=by
 have h:=Xi (c.toNat % 16) (by omega) w
 rw [show ((c.toNat % 16:Nat):Int)=(c.toNat:Int) % 16 from by omega] at h
 exact h
theorem AcR (B b:Nat) (l0 v:List UInt8) (w:World) (h:Bld B b l0 w) (D6:l0.length<=100000000) (hv:v.length<=100000000) (hB:B<=w.heap.size):
  Calls Tryz.prog 144 #[.pointer (some ⟨b,0,none⟩),.string ⟨v.toArray⟩] w fun e w'=>e=.returned (.tuple #[])/\Bld B b (l0++RdS.Ec v) w'/\Below B w w'/\Others b w w':=by
 go_enter Tryz.func144,Tryz.ntmps144
 go_wp2_with fail
 go_loopw [9] (fun i wr=>AaH B b l0 v w i wr) (fun i _=>v.length - (intOf i).toNat)
 case atStart=>exact ⟨0,Nat.zero_le _,rfl,by rw [show RdS.CX v 0=[] from rfl,List.append_nil];exact h,Below.refl _ _,Others.refl _ _⟩
 case round=>
  obtain ⟨k,hk,rfl,C3,hb,ho⟩:=hrel
  have HO:=hZ9 ho
  clear ho
  by_cases C6:k<v.length
  · have HS:=hZ9 (RdS.Ip v k C6)
    have D2:=RdS.Je v k hk
    have D1:(l0++RdS.CX v k).length<=500000000:=by rw [List.length_append];omega
    have B0:=hZ9 (Ll v[k])
    generalize C1:v[k]=c at*
    have D3:∀h,(⟨v.toArray⟩:ByteArray)[k]'h=c:=fun _=>C1
    clear C1 D2
    have HA:Hid (∀x,l0++RdS.CX v k++x=l0++(RdS.CX v k++x)):=hZ9 (fun x=>List.append_assoc _ _ _)
    generalize B5:l0++RdS.CX v k=acc at*
    have C8:=hZ9 B5
    clear B5
    have hsz:=hb.size
    have A8:=fun w=>Tryz.strings_IndexByte ⟨#[44,43,34,92,60,62,59]⟩ (c.toNat:Int) w
    have C0:(⟨#[44,43,34,92,60,62,59]⟩:ByteArray).data.toList=RdS.Eb:=rfl
    have C2:((c.toNat:Int).toNat.toUInt8)=c:=by rw [Int.toNat_natCast];exact UInt8.ofNat_toNat
    rw [C0,C2] at A8
    clear C0 C2
    generalize Lib.indexByte RdS.Eb c=ix at*
    replace A8:=fun w=>(A8 w).mono (fun e w' (h:_/\_)=>(⟨h.1,h.2.symm⟩:e=.returned (.int .i64 ix)/\w=w'))
    have D4:((c.toNat:Int)==32)=(c==32):=PD rfl
    have D5:((c.toNat:Int)==35)=(c==35):=PD rfl
    have ez:((k:Int)==0)=decide (k=0):=by rw [Bool.eq_iff_iff,beq_iff_eq,decide_eq_true_eq];omega
    have el:((k:Int)==(v.length:Int) - 1)=decide (k+1=v.length):=by rw [Bool.eq_iff_iff,beq_iff_eq,decide_eq_true_eq];omega
    have B7:∀(x:List UInt8) (w':World),RdS.Bd (decide (k=0)) (decide (k+1=v.length)) c=x->Fz B b (acc++x) w'->Below B w w'->Others b w w'->AaH B b l0 v w (.int .i64 ((k:Int)+1)) w':=by
     intro x w' hx hu D0 C4
     refine ⟨k+1,by omega,by go_num,?_,D0,C4⟩
     rw [HS.out,hx,<-HA.out]
     exact hu.bld
    have A0:=hZ9 B7
    clear B7
    generalize C5:decide (k=0)=qf at*
    generalize C9:decide (k+1=v.length)=ql at*
    generalize B6:(c==32)=q32 at*
    generalize B4:(c==35)=q35 at*
    have A5:=hZ9 B6
    have A4:=hZ9 B4
    have A3:=hZ9 C3
    clear C5 C9 B6 B4
    cases q32
    all_goals cases q35
    all_goals cases qf
    all_goals cases ql
    case false.false.false.false=>
     by_cases A6:0<=ix
     · have A7:Hid (RdS.Ar c=true):=hZ9 (by rw [<-B0.out,decide_eq_true A6])
       have HE:Hid (RdS.Bd false false c=[92,c]):=hZ9 (BC (by rw [A7.out];rfl))
       go_wp2_with fail
       refine (A8 _).mono ?_;rintro e w0 ⟨rfl,rfl⟩
       go_wp2_with fail
       refine (BJ B b acc wr.heap.size 2 2 [92,c] _ (A3.out.alloc _) (by omega) (by simp;omega) rfl (by have:=A3.out.lt.1;omega) (CN (by simp [go_sem,Ag]) (by simp [go_sem,Ag]))).mono ?_
       rintro e w1 ⟨rfl,hu,A1,A2⟩
       go_wp2_with fail
       go_roundw
       case rel=>exact A0.out _ _ HE.out hu ((hb.alloc (by omega) _).trans A1) ((HO.out.alloc hsz _).trans A2 (by simp;omega))
       case measure=>simp [intOf];omega
     · have A7:Hid (RdS.Ar c=false):=hZ9 (by rw [<-B0.out,decide_eq_false A6])
       have B1:decide (0<=ix)=false:=decide_eq_false A6
       clear A6
       by_cases hu:c.toNat<32\/126<c.toNat
       · have HU:Hid ((decide (c.toNat<32)||decide (126<c.toNat))=true):=hZ9 (by rcases hu with hu | hu <;> simp [hu])
         have HE:=hZ9 (IL (f:=false) (l:=false) (c:=c) (by rw [A7.out,A5.out,A4.out];rfl) HU.out)
         have hx1:=Md c
         have B9:=Me c
         have hand:bits .and .u8 (c.toNat:Int) 15=(c.toNat:Int) % 16:=u8_and15 (c.toNat:Int) (by omega) (by have:=c.toNat_lt;omega)
         by_cases B2:c.toNat<32
         · have A9:decide ((c.toNat:Int)<32)=true:=decide_eq_true (by omega)
           clear B2 hu
           go_wp2_with fail
           refine (A8 _).mono ?_;rintro e w0 ⟨rfl,rfl⟩
           go_wp2_with fail
           go_region_held3 (fun _=>True) (trivial)
            (first | (go_at_call 174;refine (BJ B b acc wr.heap.size 3 3 [92,RdS.Bj (c.toNat / 16),RdS.Bj (c.toNat % 16)] _ ((A3.out.alloc _).drew) (by omega) (by simp;omega) rfl (by have:=A3.out.lt.1;omega) (Di (by simp [go_sem,Ag]) (by simp [go_sem,Ag]) (by simp [go_sem,Ag]))).mono ?_;rintro e w1 ⟨rfl,hu,A1,A2⟩))
           all_goals go_wp2_with fail
           all_goals go_roundw
           all_goals first | exact A0.out _ _ HE.out hu ((hb.alloc (by omega) _).drew.trans A1) (((HO.out.alloc hsz _).drew).trans A2 (by simp;omega)) | (simp [intOf];omega)
         · have A9:decide ((c.toNat:Int)<32)=false:=decide_eq_false (by omega)
           have B3:decide ((126:Int)<(c.toNat:Int))=true:=decide_eq_true (by omega)
           clear B2 hu
           go_wp2_with fail
           refine (A8 _).mono ?_;rintro e w0 ⟨rfl,rfl⟩
           go_wp2_with fail
           go_region_held3 (fun _=>True) (trivial)
            (first | (go_at_call 174;refine (BJ B b acc wr.heap.size 3 3 [92,RdS.Bj (c.toNat / 16),RdS.Bj (c.toNat % 16)] _ ((A3.out.alloc _).drew) (by omega) (by simp;omega) rfl (by have:=A3.out.lt.1;omega) (Di (by simp [go_sem,Ag]) (by simp [go_sem,Ag]) (by simp [go_sem,Ag]))).mono ?_;rintro e w1 ⟨rfl,hu,A1,A2⟩))
           all_goals go_wp2_with fail
           all_goals go_roundw
           all_goals first | exact A0.out _ _ HE.out hu ((hb.alloc (by omega) _).drew.trans A1) (((HO.out.alloc hsz _).drew).trans A2 (by simp;omega)) | (simp [intOf];omega)
       · have HU:Hid ((decide (c.toNat<32)||decide (126<c.toNat))=false):=hZ9 (by rw [decide_eq_false (fun h=>hu (.inl h)),decide_eq_false (fun h=>hu (.inr h))];rfl)
         have A9:decide ((c.toNat:Int)<32)=false:=decide_eq_false (by omega)
         have B3:decide ((126:Int)<(c.toNat:Int))=false:=decide_eq_false (by omega)
         clear hu
         have HE:Hid (RdS.Bd false false c=[c]):=hZ9 (DW (by rw [A7.out,A5.out,A4.out];rfl) (HU.out))
         go_wp2_with fail
         refine (A8 _).mono ?_;rintro e w0 ⟨rfl,rfl⟩
         go_wp2_with fail
         refine (Df B b acc c _ A3.out (by omega) (by omega)).mono ?_
         rintro e w1 ⟨rfl,hu,A1,A2⟩
         go_wp2_with fail
         go_roundw
         case rel=>exact A0.out _ _ HE.out hu (hb.trans A1) (HO.out.trans A2 hsz)
         case measure=>simp [intOf];omega
    case false.false.false.true=>
     by_cases A6:0<=ix
     · have A7:Hid (RdS.Ar c=true):=hZ9 (by rw [<-B0.out,decide_eq_true A6])
       have HE:Hid (RdS.Bd false true c=[92,c]):=hZ9 (BC (by rw [A7.out];rfl))
       go_wp2_with fail
       refine (A8 _).mono ?_;rintro e w0 ⟨rfl,rfl⟩
       go_wp2_with fail
       refine (BJ B b acc wr.heap.size 2 2 [92,c] _ (A3.out.alloc _) (by omega) (by simp;omega) rfl (by have:=A3.out.lt.1;omega) (CN (by simp [go_sem,Ag]) (by simp [go_sem,Ag]))).mono ?_
       rintro e w1 ⟨rfl,hu,A1,A2⟩
       go_wp2_with fail
       go_roundw
       case rel=>exact A0.out _ _ HE.out hu ((hb.alloc (by omega) _).trans A1) ((HO.out.alloc hsz _).trans A2 (by simp;omega))
       case measure=>simp [intOf];omega
     · have A7:Hid (RdS.Ar c=false):=hZ9 (by rw [<-B0.out,decide_eq_false A6])
       have B1:decide (0<=ix)=false:=decide_eq_false A6
       clear A6
       by_cases hu:c.toNat<32\/126<c.toNat
       · have HU:Hid ((decide (c.toNat<32)||decide (126<c.toNat))=true):=hZ9 (by rcases hu with hu | hu <;> simp [hu])
         have HE:=hZ9 (IL (f:=false) (l:=true) (c:=c) (by rw [A7.out,A5.out,A4.out];rfl) HU.out)
         have hx1:=Md c
         have B9:=Me c
         have hand:bits .and .u8 (c.toNat:Int) 15=(c.toNat:Int) % 16:=u8_and15 (c.toNat:Int) (by omega) (by have:=c.toNat_lt;omega)
         by_cases B2:c.toNat<32
         · have A9:decide ((c.toNat:Int)<32)=true:=decide_eq_true (by omega)
           clear B2 hu
           go_wp2_with fail
           refine (A8 _).mono ?_;rintro e w0 ⟨rfl,rfl⟩
           go_wp2_with fail
           go_region_held3 (fun _=>True) (trivial)
            (first | (go_at_call 174;refine (BJ B b acc wr.heap.size 3 3 [92,RdS.Bj (c.toNat / 16),RdS.Bj (c.toNat % 16)] _ ((A3.out.alloc _).drew) (by omega) (by simp;omega) rfl (by have:=A3.out.lt.1;omega) (Di (by simp [go_sem,Ag]) (by simp [go_sem,Ag]) (by simp [go_sem,Ag]))).mono ?_;rintro e w1 ⟨rfl,hu,A1,A2⟩))
           all_goals go_wp2_with fail
           all_goals go_roundw
           all_goals first | exact A0.out _ _ HE.out hu ((hb.alloc (by omega) _).drew.trans A1) (((HO.out.alloc hsz _).drew).trans A2 (by simp;omega)) | (simp [intOf];omega)
         · have A9:decide ((c.toNat:Int)<32)=false:=decide_eq_false (by omega)
           have B3:decide ((126:Int)<(c.toNat:Int))=true:=decide_eq_true (by omega)
           clear B2 hu
           go_wp2_with fail
           refine (A8 _).mono ?_;rintro e w0 ⟨rfl,rfl⟩
           go_wp2_with fail
           go_region_held3 (fun _=>True) (trivial)
            (first | (go_at_call 174;refine (BJ B b acc wr.heap.size 3 3 [92,RdS.Bj (c.toNat / 16),RdS.Bj (c.toNat % 16)] _ ((A3.out.alloc _).drew) (by omega) (by simp;omega) rfl (by have:=A3.out.lt.1;omega) (Di (by simp [go_sem,Ag]) (by simp [go_sem,Ag]) (by simp [go_sem,Ag]))).mono ?_;rintro e w1 ⟨rfl,hu,A1,A2⟩))
           all_goals go_wp2_with fail
           all_goals go_roundw
           all_goals first | exact A0.out _ _ HE.out hu ((hb.alloc (by omega) _).drew.trans A1) (((HO.out.alloc hsz _).drew).trans A2 (by simp;omega)) | (simp [intOf];omega)
       · have HU:Hid ((decide (c.toNat<32)||decide (126<c.toNat))=false):=hZ9 (by rw [decide_eq_false (fun h=>hu (.inl h)),decide_eq_false (fun h=>hu (.inr h))];rfl)
         have A9:decide ((c.toNat:Int)<32)=false:=decide_eq_false (by omega)
         have B3:decide ((126:Int)<(c.toNat:Int))=false:=decide_eq_false (by omega)
         clear hu
         have HE:Hid (RdS.Bd false true c=[c]):=hZ9 (DW (by rw [A7.out,A5.out,A4.out];rfl) (HU.out))
         go_wp2_with fail
         refine (A8 _).mono ?_;rintro e w0 ⟨rfl,rfl⟩
         go_wp2_with fail
         refine (Df B b acc c _ A3.out (by omega) (by omega)).mono ?_
         rintro e w1 ⟨rfl,hu,A1,A2⟩
         go_wp2_with fail
         go_roundw
         case rel=>exact A0.out _ _ HE.out hu (hb.trans A1) (HO.out.trans A2 hsz)
         case measure=>simp [intOf];omega
    case false.false.true.false=>
     by_cases A6:0<=ix
     · have A7:Hid (RdS.Ar c=true):=hZ9 (by rw [<-B0.out,decide_eq_true A6])
       have HE:Hid (RdS.Bd true false c=[92,c]):=hZ9 (BC (by rw [A7.out];rfl))
       go_wp2_with fail
       refine (A8 _).mono ?_;rintro e w0 ⟨rfl,rfl⟩
       go_wp2_with fail
       refine (BJ B b acc wr.heap.size 2 2 [92,c] _ (A3.out.alloc _) (by omega) (by simp;omega) rfl (by have:=A3.out.lt.1;omega) (CN (by simp [go_sem,Ag]) (by simp [go_sem,Ag]))).mono ?_
       rintro e w1 ⟨rfl,hu,A1,A2⟩
       go_wp2_with fail
       go_roundw
       case rel=>exact A0.out _ _ HE.out hu ((hb.alloc (by omega) _).trans A1) ((HO.out.alloc hsz _).trans A2 (by simp;omega))
       case measure=>simp [intOf];omega
     · have A7:Hid (RdS.Ar c=false):=hZ9 (by rw [<-B0.out,decide_eq_false A6])
       have B1:decide (0<=ix)=false:=decide_eq_false A6
       clear A6
       by_cases hu:c.toNat<32\/126<c.toNat
       · have HU:Hid ((decide (c.toNat<32)||decide (126<c.toNat))=true):=hZ9 (by rcases hu with hu | hu <;> simp [hu])
         have HE:=hZ9 (IL (f:=true) (l:=false) (c:=c) (by rw [A7.out,A5.out,A4.out];rfl) HU.out)
         have hx1:=Md c
         have B9:=Me c
         have hand:bits .and .u8 (c.toNat:Int) 15=(c.toNat:Int) % 16:=u8_and15 (c.toNat:Int) (by omega) (by have:=c.toNat_lt;omega)
         by_cases B2:c.toNat<32
         · have A9:decide ((c.toNat:Int)<32)=true:=decide_eq_true (by omega)
           clear B2 hu
           go_wp2_with fail
           refine (A8 _).mono ?_;rintro e w0 ⟨rfl,rfl⟩
           go_wp2_with fail
           go_region_held3 (fun _=>True) (trivial)
            (first | (go_at_call 174;refine (BJ B b acc wr.heap.size 3 3 [92,RdS.Bj (c.toNat / 16),RdS.Bj (c.toNat % 16)] _ ((A3.out.alloc _).drew) (by omega) (by simp;omega) rfl (by have:=A3.out.lt.1;omega) (Di (by simp [go_sem,Ag]) (by simp [go_sem,Ag]) (by simp [go_sem,Ag]))).mono ?_;rintro e w1 ⟨rfl,hu,A1,A2⟩))
           all_goals go_wp2_with fail
           all_goals go_roundw
           all_goals first | exact A0.out _ _ HE.out hu ((hb.alloc (by omega) _).drew.trans A1) (((HO.out.alloc hsz _).drew).trans A2 (by simp;omega)) | (simp [intOf];omega)
         · have A9:decide ((c.toNat:Int)<32)=false:=decide_eq_false (by omega)
           have B3:decide ((126:Int)<(c.toNat:Int))=true:=decide_eq_true (by omega)
           clear B2 hu
           go_wp2_with fail
           refine (A8 _).mono ?_;rintro e w0 ⟨rfl,rfl⟩
           go_wp2_with fail
           go_region_held3 (fun _=>True) (trivial)
            (first | (go_at_call 174;refine (BJ B b acc wr.heap.size 3 3 [92,RdS.Bj (c.toNat / 16),RdS.Bj (c.toNat % 16)] _ ((A3.out.alloc _).drew) (by omega) (by simp;omega) rfl (by have:=A3.out.lt.1;omega) (Di (by simp [go_sem,Ag]) (by simp [go_sem,Ag]) (by simp [go_sem,Ag]))).mono ?_;rintro e w1 ⟨rfl,hu,A1,A2⟩))
           all_goals go_wp2_with fail
           all_goals go_roundw
           all_goals first | exact A0.out _ _ HE.out hu ((hb.alloc (by omega) _).drew.trans A1) (((HO.out.alloc hsz _).drew).trans A2 (by simp;omega)) | (simp [intOf];omega)
       · have HU:Hid ((decide (c.toNat<32)||decide (126<c.toNat))=false):=hZ9 (by rw [decide_eq_false (fun h=>hu (.inl h)),decide_eq_false (fun h=>hu (.inr h))];rfl)
         have A9:decide ((c.toNat:Int)<32)=false:=decide_eq_false (by omega)
         have B3:decide ((126:Int)<(c.toNat:Int))=false:=decide_eq_false (by omega)
         clear hu
         have HE:Hid (RdS.Bd true false c=[c]):=hZ9 (DW (by rw [A7.out,A5.out,A4.out];rfl) (HU.out))
         go_wp2_with fail
         refine (A8 _).mono ?_;rintro e w0 ⟨rfl,rfl⟩
         go_wp2_with fail
         refine (Df B b acc c _ A3.out (by omega) (by omega)).mono ?_
         rintro e w1 ⟨rfl,hu,A1,A2⟩
         go_wp2_with fail
         go_roundw
         case rel=>exact A0.out _ _ HE.out hu (hb.trans A1) (HO.out.trans A2 hsz)
         case measure=>simp [intOf];omega
    case false.false.true.true=>
     by_cases A6:0<=ix
     · have A7:Hid (RdS.Ar c=true):=hZ9 (by rw [<-B0.out,decide_eq_true A6])
       have HE:Hid (RdS.Bd true true c=[92,c]):=hZ9 (BC (by rw [A7.out];rfl))
       go_wp2_with fail
       refine (A8 _).mono ?_;rintro e w0 ⟨rfl,rfl⟩
       go_wp2_with fail
       refine (BJ B b acc wr.heap.size 2 2 [92,c] _ (A3.out.alloc _) (by omega) (by simp;omega) rfl (by have:=A3.out.lt.1;omega) (CN (by simp [go_sem,Ag]) (by simp [go_sem,Ag]))).mono ?_
       rintro e w1 ⟨rfl,hu,A1,A2⟩
       go_wp2_with fail
       go_roundw
       case rel=>exact A0.out _ _ HE.out hu ((hb.alloc (by omega) _).trans A1) ((HO.out.alloc hsz _).trans A2 (by simp;omega))
       case measure=>simp [intOf];omega
     · have A7:Hid (RdS.Ar c=false):=hZ9 (by rw [<-B0.out,decide_eq_false A6])
       have B1:decide (0<=ix)=false:=decide_eq_false A6
       clear A6
       by_cases hu:c.toNat<32\/126<c.toNat
       · have HU:Hid ((decide (c.toNat<32)||decide (126<c.toNat))=true):=hZ9 (by rcases hu with hu | hu <;> simp [hu])
         have HE:=hZ9 (IL (f:=true) (l:=true) (c:=c) (by rw [A7.out,A5.out,A4.out];rfl) HU.out)
         have hx1:=Md c
         have B9:=Me c
         have hand:bits .and .u8 (c.toNat:Int) 15=(c.toNat:Int) % 16:=u8_and15 (c.toNat:Int) (by omega) (by have:=c.toNat_lt;omega)
         by_cases B2:c.toNat<32
         · have A9:decide ((c.toNat:Int)<32)=true:=decide_eq_true (by omega)
           clear B2 hu
           go_wp2_with fail
           refine (A8 _).mono ?_;rintro e w0 ⟨rfl,rfl⟩
           go_wp2_with fail
           go_region_held3 (fun _=>True) (trivial)
            (first | (go_at_call 174;refine (BJ B b acc wr.heap.size 3 3 [92,RdS.Bj (c.toNat / 16),RdS.Bj (c.toNat % 16)] _ ((A3.out.alloc _).drew) (by omega) (by simp;omega) rfl (by have:=A3.out.lt.1;omega) (Di (by simp [go_sem,Ag]) (by simp [go_sem,Ag]) (by simp [go_sem,Ag]))).mono ?_;rintro e w1 ⟨rfl,hu,A1,A2⟩))
           all_goals go_wp2_with fail
           all_goals go_roundw
           all_goals first | exact A0.out _ _ HE.out hu ((hb.alloc (by omega) _).drew.trans A1) (((HO.out.alloc hsz _).drew).trans A2 (by simp;omega)) | (simp [intOf];omega)
         · have A9:decide ((c.toNat:Int)<32)=false:=decide_eq_false (by omega)
           have B3:decide ((126:Int)<(c.toNat:Int))=true:=decide_eq_true (by omega)
           clear B2 hu
           go_wp2_with fail
           refine (A8 _).mono ?_;rintro e w0 ⟨rfl,rfl⟩
           go_wp2_with fail
           go_region_held3 (fun _=>True) (trivial)
            (first | (go_at_call 174;refine (BJ B b acc wr.heap.size 3 3 [92,RdS.Bj (c.toNat / 16),RdS.Bj (c.toNat % 16)] _ ((A3.out.alloc _).drew) (by omega) (by simp;omega) rfl (by have:=A3.out.lt.1;omega) (Di (by simp [go_sem,Ag]) (by simp [go_sem,Ag]) (by simp [go_sem,Ag]))).mono ?_;rintro e w1 ⟨rfl,hu,A1,A2⟩))
           all_goals go_wp2_with fail
           all_goals go_roundw
           all_goals first | exact A0.out _ _ HE.out hu ((hb.alloc (by omega) _).drew.trans A1) (((HO.out.alloc hsz _).drew).trans A2 (by simp;omega)) | (simp [intOf];omega)
       · have HU:Hid ((decide (c.toNat<32)||decide (126<c.toNat))=false):=hZ9 (by rw [decide_eq_false (fun h=>hu (.inl h)),decide_eq_false (fun h=>hu (.inr h))];rfl)
         have A9:decide ((c.toNat:Int)<32)=false:=decide_eq_false (by omega)
         have B3:decide ((126:Int)<(c.toNat:Int))=false:=decide_eq_false (by omega)
         clear hu
         have HE:Hid (RdS.Bd true true c=[c]):=hZ9 (DW (by rw [A7.out,A5.out,A4.out];rfl) (HU.out))
         go_wp2_with fail
         refine (A8 _).mono ?_;rintro e w0 ⟨rfl,rfl⟩
         go_wp2_with fail
         refine (Df B b acc c _ A3.out (by omega) (by omega)).mono ?_
         rintro e w1 ⟨rfl,hu,A1,A2⟩
         go_wp2_with fail
         go_roundw
         case rel=>exact A0.out _ _ HE.out hu (hb.trans A1) (HO.out.trans A2 hsz)
         case measure=>simp [intOf];omega
    case false.true.false.false=>
     by_cases A6:0<=ix
     · have A7:Hid (RdS.Ar c=true):=hZ9 (by rw [<-B0.out,decide_eq_true A6])
       have HE:Hid (RdS.Bd false false c=[92,c]):=hZ9 (BC (by rw [A7.out];rfl))
       go_wp2_with fail
       refine (A8 _).mono ?_;rintro e w0 ⟨rfl,rfl⟩
       go_wp2_with fail
       refine (BJ B b acc wr.heap.size 2 2 [92,c] _ (A3.out.alloc _) (by omega) (by simp;omega) rfl (by have:=A3.out.lt.1;omega) (CN (by simp [go_sem,Ag]) (by simp [go_sem,Ag]))).mono ?_
       rintro e w1 ⟨rfl,hu,A1,A2⟩
       go_wp2_with fail
       go_roundw
       case rel=>exact A0.out _ _ HE.out hu ((hb.alloc (by omega) _).trans A1) ((HO.out.alloc hsz _).trans A2 (by simp;omega))
       case measure=>simp [intOf];omega
     · have A7:Hid (RdS.Ar c=false):=hZ9 (by rw [<-B0.out,decide_eq_false A6])
       have B1:decide (0<=ix)=false:=decide_eq_false A6
       clear A6
       have hc:c.toNat=35:=by rw [beq_iff_eq.1 A4.out];rfl
       have HU:Hid ((decide (c.toNat<32)||decide (126<c.toNat))=false):=hZ9 (by rw [hc];rfl)
       have A9:decide ((c.toNat:Int)<32)=false:=decide_eq_false (by omega)
       have B3:decide ((126:Int)<(c.toNat:Int))=false:=decide_eq_false (by omega)
       clear hc
       have HE:Hid (RdS.Bd false false c=[c]):=hZ9 (DW (by rw [A7.out,A5.out,A4.out];rfl) (HU.out))
       go_wp2_with fail
       refine (A8 _).mono ?_;rintro e w0 ⟨rfl,rfl⟩
       go_wp2_with fail
       refine (Df B b acc c _ A3.out (by omega) (by omega)).mono ?_
       rintro e w1 ⟨rfl,hu,A1,A2⟩
       go_wp2_with fail
       go_roundw
       case rel=>exact A0.out _ _ HE.out hu (hb.trans A1) (HO.out.trans A2 hsz)
       case measure=>simp [intOf];omega
    case false.true.false.true=>
     by_cases A6:0<=ix
     · have A7:Hid (RdS.Ar c=true):=hZ9 (by rw [<-B0.out,decide_eq_true A6])
       have HE:Hid (RdS.Bd false true c=[92,c]):=hZ9 (BC (by rw [A7.out];rfl))
       go_wp2_with fail
       refine (A8 _).mono ?_;rintro e w0 ⟨rfl,rfl⟩
       go_wp2_with fail
       refine (BJ B b acc wr.heap.size 2 2 [92,c] _ (A3.out.alloc _) (by omega) (by simp;omega) rfl (by have:=A3.out.lt.1;omega) (CN (by simp [go_sem,Ag]) (by simp [go_sem,Ag]))).mono ?_
       rintro e w1 ⟨rfl,hu,A1,A2⟩
       go_wp2_with fail
       go_roundw
       case rel=>exact A0.out _ _ HE.out hu ((hb.alloc (by omega) _).trans A1) ((HO.out.alloc hsz _).trans A2 (by simp;omega))
       case measure=>simp [intOf];omega
     · have A7:Hid (RdS.Ar c=false):=hZ9 (by rw [<-B0.out,decide_eq_false A6])
       have B1:decide (0<=ix)=false:=decide_eq_false A6
       clear A6
       have hc:c.toNat=35:=by rw [beq_iff_eq.1 A4.out];rfl
       have HU:Hid ((decide (c.toNat<32)||decide (126<c.toNat))=false):=hZ9 (by rw [hc];rfl)
       have A9:decide ((c.toNat:Int)<32)=false:=decide_eq_false (by omega)
       have B3:decide ((126:Int)<(c.toNat:Int))=false:=decide_eq_false (by omega)
       clear hc
       have HE:Hid (RdS.Bd false true c=[c]):=hZ9 (DW (by rw [A7.out,A5.out,A4.out];rfl) (HU.out))
       go_wp2_with fail
       refine (A8 _).mono ?_;rintro e w0 ⟨rfl,rfl⟩
       go_wp2_with fail
       refine (Df B b acc c _ A3.out (by omega) (by omega)).mono ?_
       rintro e w1 ⟨rfl,hu,A1,A2⟩
       go_wp2_with fail
       go_roundw
       case rel=>exact A0.out _ _ HE.out hu (hb.trans A1) (HO.out.trans A2 hsz)
       case measure=>simp [intOf];omega
    case false.true.true.false=>
     have HE:Hid (RdS.Bd true false c=[92,c]):=hZ9 (BC (by rw [A5.out,A4.out];simp))
     go_wp2_with fail
     refine (BJ B b acc wr.heap.size 2 2 [92,c] _ (A3.out.alloc _) (by omega) (by simp;omega) rfl (by have:=A3.out.lt.1;omega) (CN (by simp [go_sem,Ag]) (by simp [go_sem,Ag]))).mono ?_
     rintro e w1 ⟨rfl,hu,A1,A2⟩
     go_wp2_with fail
     go_roundw
     case rel=>exact A0.out _ _ HE.out hu ((hb.alloc (by omega) _).trans A1) ((HO.out.alloc hsz _).trans A2 (by simp;omega))
     case measure=>simp [intOf];omega
    case false.true.true.true=>
     have HE:Hid (RdS.Bd true true c=[92,c]):=hZ9 (BC (by rw [A5.out,A4.out];simp))
     go_wp2_with fail
     refine (BJ B b acc wr.heap.size 2 2 [92,c] _ (A3.out.alloc _) (by omega) (by simp;omega) rfl (by have:=A3.out.lt.1;omega) (CN (by simp [go_sem,Ag]) (by simp [go_sem,Ag]))).mono ?_
     rintro e w1 ⟨rfl,hu,A1,A2⟩
     go_wp2_with fail
     go_roundw
     case rel=>exact A0.out _ _ HE.out hu ((hb.alloc (by omega) _).trans A1) ((HO.out.alloc hsz _).trans A2 (by simp;omega))
     case measure=>simp [intOf];omega
    case true.false.false.false=>
     by_cases A6:0<=ix
     · have A7:Hid (RdS.Ar c=true):=hZ9 (by rw [<-B0.out,decide_eq_true A6])
       have HE:Hid (RdS.Bd false false c=[92,c]):=hZ9 (BC (by rw [A7.out];rfl))
       go_wp2_with fail
       refine (A8 _).mono ?_;rintro e w0 ⟨rfl,rfl⟩
       go_wp2_with fail
       refine (BJ B b acc wr.heap.size 2 2 [92,c] _ (A3.out.alloc _) (by omega) (by simp;omega) rfl (by have:=A3.out.lt.1;omega) (CN (by simp [go_sem,Ag]) (by simp [go_sem,Ag]))).mono ?_
       rintro e w1 ⟨rfl,hu,A1,A2⟩
       go_wp2_with fail
       go_roundw
       case rel=>exact A0.out _ _ HE.out hu ((hb.alloc (by omega) _).trans A1) ((HO.out.alloc hsz _).trans A2 (by simp;omega))
       case measure=>simp [intOf];omega
     · have A7:Hid (RdS.Ar c=false):=hZ9 (by rw [<-B0.out,decide_eq_false A6])
       have B1:decide (0<=ix)=false:=decide_eq_false A6
       clear A6
       have hc:c.toNat=32:=by rw [beq_iff_eq.1 A5.out];rfl
       have HU:Hid ((decide (c.toNat<32)||decide (126<c.toNat))=false):=hZ9 (by rw [hc];rfl)
       have A9:decide ((c.toNat:Int)<32)=false:=decide_eq_false (by omega)
       have B3:decide ((126:Int)<(c.toNat:Int))=false:=decide_eq_false (by omega)
       clear hc
       have HE:Hid (RdS.Bd false false c=[c]):=hZ9 (DW (by rw [A7.out,A5.out,A4.out];rfl) (HU.out))
       go_wp2_with fail
       refine (A8 _).mono ?_;rintro e w0 ⟨rfl,rfl⟩
       go_wp2_with fail
       refine (Df B b acc c _ A3.out (by omega) (by omega)).mono ?_
       rintro e w1 ⟨rfl,hu,A1,A2⟩
       go_wp2_with fail
       go_roundw
       case rel=>exact A0.out _ _ HE.out hu (hb.trans A1) (HO.out.trans A2 hsz)
       case measure=>simp [intOf];omega
    case true.false.false.true=>
     have HE:Hid (RdS.Bd false true c=[92,c]):=hZ9 (BC (by rw [A5.out,A4.out];simp))
     go_wp2_with fail
     refine (BJ B b acc wr.heap.size 2 2 [92,c] _ (A3.out.alloc _) (by omega) (by simp;omega) rfl (by have:=A3.out.lt.1;omega) (CN (by simp [go_sem,Ag]) (by simp [go_sem,Ag]))).mono ?_
     rintro e w1 ⟨rfl,hu,A1,A2⟩
     go_wp2_with fail
     go_roundw
     case rel=>exact A0.out _ _ HE.out hu ((hb.alloc (by omega) _).trans A1) ((HO.out.alloc hsz _).trans A2 (by simp;omega))
     case measure=>simp [intOf];omega
    case true.false.true.false=>
     have HE:Hid (RdS.Bd true false c=[92,c]):=hZ9 (BC (by rw [A5.out,A4.out];simp))
     go_wp2_with fail
     refine (BJ B b acc wr.heap.size 2 2 [92,c] _ (A3.out.alloc _) (by omega) (by simp;omega) rfl (by have:=A3.out.lt.1;omega) (CN (by simp [go_sem,Ag]) (by simp [go_sem,Ag]))).mono ?_
     rintro e w1 ⟨rfl,hu,A1,A2⟩
     go_wp2_with fail
     go_roundw
     case rel=>exact A0.out _ _ HE.out hu ((hb.alloc (by omega) _).trans A1) ((HO.out.alloc hsz _).trans A2 (by simp;omega))
     case measure=>simp [intOf];omega
    case true.false.true.true=>
     have HE:Hid (RdS.Bd true true c=[92,c]):=hZ9 (BC (by rw [A5.out,A4.out];simp))
     go_wp2_with fail
     refine (BJ B b acc wr.heap.size 2 2 [92,c] _ (A3.out.alloc _) (by omega) (by simp;omega) rfl (by have:=A3.out.lt.1;omega) (CN (by simp [go_sem,Ag]) (by simp [go_sem,Ag]))).mono ?_
     rintro e w1 ⟨rfl,hu,A1,A2⟩
     go_wp2_with fail
     go_roundw
     case rel=>exact A0.out _ _ HE.out hu ((hb.alloc (by omega) _).trans A1) ((HO.out.alloc hsz _).trans A2 (by simp;omega))
     case measure=>simp [intOf];omega
    case true.true.false.false=>
     exact absurd ((beq_iff_eq.1 A5.out).symm.trans (beq_iff_eq.1 A4.out)) (by decide)
    case true.true.false.true=>
     exact absurd ((beq_iff_eq.1 A5.out).symm.trans (beq_iff_eq.1 A4.out)) (by decide)
    case true.true.true.false=>
     exact absurd ((beq_iff_eq.1 A5.out).symm.trans (beq_iff_eq.1 A4.out)) (by decide)
    case true.true.true.true=>
     exact absurd ((beq_iff_eq.1 A5.out).symm.trans (beq_iff_eq.1 A4.out)) (by decide)
  · have B8:k=v.length:=by omega
    have C7:Hid (RdS.Ec v=RdS.CX v v.length):=hZ9 rfl
    subst B8
    go_wp2_with fail
    go_end0
    exact ⟨rfl,by rw [C7.out];exact C3,hb,HO.out⟩
theorem UC (B b:Nat) (l0 v:List UInt8) (w:World) (h:Bld B b l0 w) (A0:l0.length<=100000000) (hv:v.length<=100000000) (hB:B<=w.heap.size):
  Calls Tryz.prog 144 #[.pointer (some ⟨b,0,none⟩),.string ⟨v.toArray⟩] w fun e w'=>e=.returned (.tuple #[])/\Bld B b (l0++RdS.Ec v) w'/\Below B w w':=
 (AcR B b l0 v w h A0 hv hB).mono fun _ _ h=>⟨h.1,h.2.1,h.2.2.1⟩
end
end Go.Proofs.YtgngjfjaelgaeaaGreatDoor
