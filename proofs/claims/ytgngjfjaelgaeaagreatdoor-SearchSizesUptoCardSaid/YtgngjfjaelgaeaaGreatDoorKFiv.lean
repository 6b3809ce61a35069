/- The walks of how the program evaluates a filter. Conditions: as stated. -/
import Derived.Test.YtgngjfjaelgaeaaGreatDoorKFiq
import Derived.Test.YtgngjfjaelgaeaaGreatDoorKEna
set_option maxRecDepth 100000
set_option maxHeartbeats 16000000
namespace Go.Proofs.YtgngjfjaelgaeaaGreatDoor
section
namespace FiS
theorem Kz {t x:List UInt8}:∀{A:List EnS.At},x ∈ Gt t A↔∃a ∈ A,(RuS.typeOf a.typ).1=t/\x ∈ a.vals
 | []=>by simp [Gt]
 | a :: r=>by
  rw [Gt,List.mem_append,Kz (A:=r)]
  constructor
  · rintro (h | ⟨b,hb,h1,h2⟩)
    · split at h
      · rename_i ht
        exact ⟨a,List.mem_cons_self ..,ht,h⟩
      · cases h
    · exact ⟨b,List.mem_cons_of_mem _ hb,h1,h2⟩
  · rintro ⟨b,hb,h1,h2⟩
    rcases List.mem_cons.1 hb with rfl | hb
    · left;rw [if_pos h1];exact h2
    · exact .inr ⟨b,hb,h1,h2⟩
theorem Aad {t:List UInt8} {A:List EnS.At} {P:List UInt8->Bool} {j m:Nat} (hj:j<A.length) (ht:(RuS.typeOf (A[j]'hj).typ).1=t) (hm:m<(A[j]'hj).vals.length) (h:P ((A[j]'hj).vals[m]'hm)=true):(Gt t A).any P=true:=
 List.any_eq_true.2 ⟨_,Kz.2 ⟨_,List.getElem_mem hj,ht,List.getElem_mem hm⟩,h⟩
theorem Acv {t:List UInt8} {A:List EnS.At} {P:List UInt8->Bool} (h:∀j (hj:j<A.length),(RuS.typeOf (A[j]'hj).typ).1=t->∀x ∈ (A[j]'hj).vals,P x=false):(Gt t A).any P=false:=by
 rw [List.any_eq_false]
 intro x hx
 obtain ⟨a,ha,h1,h2⟩:=Kz.1 hx
 obtain ⟨j,hj,rfl⟩:=List.mem_iff_getElem.1 ha
 rw [h j hj h1 x h2];simp
end FiS
open Go.RowKit
open FiS (Fi)
attribute [local go_sem ↓] Go.wp_at_zero Go.wp_at_succ
def LJ (A:List EnS.At):Prop:=GP A/\∀x ∈ A,x.typ.length<=1048576
def LK (r:Int) (w:World) (e:Ending) (w':World):Prop:=e=.returned (.int .i64 r)/\Below w.heap.size w w'
theorem Acw (n:Nat) (x:Fi) (v u:Value) (A:List EnS.At) (w:World) (h:Dq n w v x) (C7:FiS.wdF 20000 x) (hA:BK w u A) (hf:LJ A) (hE:Env w):Calls Tryz.prog 128 #[v,u] w (LK (FiS.Fe A x.kind x.attr x.value x.first x.last x.any) w):=by
 obtain ⟨⟨H7,F8⟩,G7⟩:=hf
 have hsz:x.attr.length<=20000/\x.value.length<=20000:=by
  cases x
  rw [FiS.wdF] at C7
  exact ⟨C7.1.1,C7.1.2.1⟩
 have A3:Hid (∀(t:List UInt8) (sy:Int) (W:World),(RuS.typeOf x.attr).2=sy->Dq n W v x->t.length<=1000000->Env W->Calls Tryz.prog 160 #[v,.string ⟨t.toArray⟩,.int .i64 sy] W (CH (FiS.FK x.kind x.attr x.value x.first x.last x.any t) W)):=hZ9 (fun t sy W hs h ht hE=>Aac n x v t sy hs W h C7 ht hE)
 obtain ⟨PF,D8⟩:∃f:List UInt8->Bool,(fun y=>decide (x.kind=7)||FiS.FK x.kind x.attr x.value x.first x.last x.any y)=f:=⟨_,rfl⟩
 have B5:Hid (∀y,PF y=(decide (x.kind=7)||FiS.FK x.kind x.attr x.value x.first x.last x.any y)):=hZ9 (fun y=>(congrFun D8 y).symm)
 have B3:Hid (FiS.Fe A x.kind x.attr x.value x.first x.last x.any=if FiS.OM x.kind x.attr x.value=true then -1 else if (FiS.Gt (RuS.typeOf x.attr).1 A).any PF=true then 1 else 0):=hZ9 (by unfold FiS.Fe;rw [<-D8])
 obtain ⟨R,hR⟩:∃r,FiS.Fe A x.kind x.attr x.value x.first x.last x.any=r:=⟨_,rfl⟩
 rw [hR] at B3⊢
 clear hR D8
 obtain ⟨VE,F9⟩:∃f:List UInt8->Bool,(fun y=>FiS.FK x.kind x.attr x.value x.first x.last x.any y)=f:=⟨_,rfl⟩
 have C5:∀y,FiS.FK x.kind x.attr x.value x.first x.last x.any y=VE y:=fun y=>congrFun F9 y
 simp only [C5] at A3 B5
 clear F9 C5
 have A1:Hid (FiS.OM x.kind x.attr x.value=(decide ((RuS.typeOf x.attr).2=0)||(decide (x.kind=4)&&decide (2<(RuS.typeOf x.attr).2))||((decide (x.kind=5)||decide (x.kind=6))&&(decide ((RuS.typeOf x.attr).2=2)||decide ((RuS.typeOf x.attr).2=5)))||(decide (x.kind≠4)&&decide (x.kind≠7)&&decide ((DnS.AB x.attr x.value).2≠0)))):=hZ9 rfl
 have HH:=hZ9 h
 obtain ⟨a5,c5,a6,c6,hv,_,_,_⟩:=FiV.parts h
 have D4:∀W,Calls Tryz.prog 51 #[.string ⟨x.attr.toArray⟩] W (Am x.attr W):=fun W=>FW ⟨x.attr.toArray⟩ (by rw [Ef];omega) W
 have D7:=fun W hE=>Gj x.attr x.value (by omega) (by omega) W hE
 unfold Am at D4
 unfold BM at D7
 obtain ⟨B,hB⟩:∃b,FiS.OM x.kind x.attr x.value=b:=⟨_,rfl⟩
 rw [hB] at A1 B3
 clear hB h hsz
 generalize DnS.AB x.attr x.value=DV at*
 generalize RuS.typeOf x.attr=TT at*
 obtain ⟨Tn,sy⟩:=TT
 obtain ⟨D1,D2⟩:=DV
 simp only at D4 D7 A3 A1 B3
 generalize x.any.length=AL at*
 generalize x.parts.length=PL at*
 generalize x.kind=kd at*
 generalize x.attr=at0 at*
 generalize x.value=vl at*
 generalize x.first=fs at*
 generalize x.last=ls at*
 subst hv
 unfold LK CH at*
 have E9:=Af w (.cells #[.int .i64 kd,.string ⟨at0.toArray⟩,.string ⟨vl.toArray⟩,.string ⟨fs.toArray⟩,.string ⟨ls.toArray⟩,.slice a5 AL c5,.slice a6 PL c6] 36)
 have E6:=Whole.made w 36 #[.int .i64 kd,.string ⟨at0.toArray⟩,.string ⟨vl.toArray⟩,.string ⟨fs.toArray⟩,.string ⟨ls.toArray⟩,.slice a5 AL c5,.slice a6 PL c6]
 obtain ⟨q0,q1,q2,q3,q4,q5,q6⟩:=E6.seven
 obtain ⟨aa,ac,rfl,H6,G9⟩:=Ae.at hA
 have D6:=hZ9 G9
 have C9:=hZ9 (fun j (hj:j<A.length)=>(F8 A[j] (List.getElem_mem hj)))
 have A9:=hZ9 (fun j (hj:j<A.length)=>G7 A[j] (List.getElem_mem hj))
 have B0:=hZ9 (fun j m (hj:j<A.length) (ht:(RuS.typeOf (A[j]'hj).typ).1=Tn) (hm:m<(A[j]'hj).vals.length) (h:PF ((A[j]'hj).vals[m]'hm)=true)=>FiS.Aad (P:=PF) hj ht hm h)
 have C8:=hZ9 (@FiS.Acv Tn A PF)
 clear G9 hA F8 G7
 obtain ⟨NA,F2⟩:∃k,A.length=k:=⟨_,rfl⟩
 have G2:=hZ9 F2
 rw [F2] at H6 H7⊢
 clear F2
 go_enter Tryz.func128,Tryz.ntmps128
 go_wp2_with fail
 refine (D4 _).mono ?_;rintro e w2 ⟨rfl,F3⟩
 have D0:=E9.trans (F3.mono E9.size)
 have E1:=E6.call F3
 clear q0 q1 q2 q3 q4 q5 q6 F3
 obtain ⟨q0,q1,q2,q3,q4,q5,q6⟩:=E1.seven
 have B9:=D7 w2 (hE.below D0)
 clear D7
 go_wp2_with fail
 refine B9.mono ?_;rintro e w3 ⟨rfl,F1⟩
 have B2:=D0.trans (F1.mono D0.size)
 have E0:=E1.call F1
 clear q0 q1 q2 q3 q4 q5 q6 B9 F1 E1 E6 D0 E9
 obtain ⟨q0,q1,q2,q3,q4,q5,q6⟩:=E0.seven
 go_upto_block 0 with fail
 have B6:Hid (B=true->R=-1):=hZ9 (fun h=>by rw [B3.out,h];rfl)
 go_cut [29] (fun b wd=>B=false/\wd=w3)
 case first=>
  clear D6 C9 A9 B0 C8 A3 B5 B3 D4 HH
  by_cases h0:sy=0
  case pos=>
   have HB:Hid (B=true):=hZ9 (by rw [A1.out];simp [h0])
   subst h0
   clear A1
   have A4:=hZ9 (B6.out HB.out)
   go_wp2_with fail
   go_ret
   exact ⟨by (rw [A4.out]) <;> rfl,B2⟩
  have e0:(sy==0)=false:=by simpa using h0
  by_cases h4:kd=4
  case pos=>
   subst h4
   by_cases h2:2<sy
   · have HB:Hid (B=true):=hZ9 (by rw [A1.out];simp [h2])
     have e2:decide (2<sy)=true:=decide_eq_true h2
     clear A1
     have A4:=hZ9 (B6.out HB.out)
     go_wp2_with fail
     go_ret
     exact ⟨by (rw [A4.out]) <;> rfl,B2⟩
   · have HB:Hid (B=false):=hZ9 (by rw [A1.out];simp [h2,h0])
     have e2:decide (2<sy)=false:=decide_eq_false h2
     clear A1
     go_wp2_with fail
     go_meet
     exact ⟨HB.out,rfl⟩
  have e4:(kd==4)=false:=by simpa using h4
  have J8:(kd !=4)=true:=by simpa using h4
  by_cases h7:kd=7
  case pos=>
   subst h7
   have HB:Hid (B=false):=hZ9 (by rw [A1.out];simp [h0])
   clear A1
   go_wp2_with fail
   go_meet
   exact ⟨HB.out,rfl⟩
  have e7:(kd==7)=false:=by simpa using h7
  have K0:(kd !=7)=true:=by simpa using h7
  by_cases hs:sy=2\/sy=5
  case pos=>
   have es:(sy==2)=true\/((sy==2)=false/\(sy==5)=true):=by
    by_cases h2:sy=2
    · exact .inl (by simpa using h2)
    · exact .inr ⟨by simpa using h2,by simpa using hs.resolve_left h2⟩
   by_cases h56:kd=5\/kd=6
   case pos=>
    have HB:Hid (B=true):=hZ9 (by rw [A1.out];rcases h56 with h | h <;> rcases hs with h' | h' <;> simp [h,h'])
    have ek:(kd==5)=true\/((kd==5)=false/\(kd==6)=true):=by
     by_cases h2:kd=5
     · exact .inl (by simpa using h2)
     · exact .inr ⟨by simpa using h2,by simpa using h56.resolve_left h2⟩
    clear A1 hs h56
    rcases es with s2 | ⟨s2,s5⟩
    all_goals rcases ek with k5 | ⟨k5,k6⟩
    all_goals (
     have A4:=hZ9 (B6.out HB.out)
     go_wp2_with fail
     go_ret
     exact ⟨by (rw [A4.out]) <;> rfl,B2⟩)
   have k5:(kd==5)=false:=by simpa using fun h=>h56 (.inl h)
   have k6:(kd==6)=false:=by simpa using fun h=>h56 (.inr h)
   by_cases hd:D2=0
   · have HB:Hid (B=false):=hZ9 (by rw [A1.out];simp [h0,h4,hd];intro h;exact absurd h h56)
     have ed:(D2 !=0)=false:=by simpa using hd
     clear A1 hs h56
     go_wp2_with fail
     go_meet
     exact ⟨HB.out,rfl⟩
   · have HB:Hid (B=true):=hZ9 (by rw [A1.out];simp [h4,h7,hd])
     have ed:(D2 !=0)=true:=by simpa using hd
     clear A1 hs h56
     have A4:=hZ9 (B6.out HB.out)
     go_wp2_with fail
     go_ret
     exact ⟨by (rw [A4.out]) <;> rfl,B2⟩
  have s2:(sy==2)=false:=by simpa using fun h=>hs (.inl h)
  have s5:(sy==5)=false:=by simpa using fun h=>hs (.inr h)
  have H1:¬sy=2:=fun h=>hs (.inl h)
  have H8:¬sy=5:=fun h=>hs (.inr h)
  have ek:(kd==5)=true\/((kd==5)=false/\(kd==6)=true)\/((kd==5)=false/\(kd==6)=false):=by
   cases (kd==5) <;> cases (kd==6) <;> simp
  by_cases hd:D2=0
  · have HB:Hid (B=false):=hZ9 (by rw [A1.out];simp [h0,h4,hd,H1,H8])
    have ed:(D2 !=0)=false:=by simpa using hd
    clear A1 hs
    rcases ek with k5 | ⟨k5,k6⟩ | ⟨k5,k6⟩
    all_goals (
     go_wp2_with fail
     go_meet
     exact ⟨HB.out,rfl⟩)
  · have HB:Hid (B=true):=hZ9 (by rw [A1.out];simp [h4,h7,hd])
    have ed:(D2 !=0)=true:=by simpa using hd
    clear A1 hs
    rcases ek with k5 | ⟨k5,k6⟩ | ⟨k5,k6⟩
    all_goals (
     have A4:=hZ9 (B6.out HB.out)
     go_wp2_with fail
     go_ret
     exact ⟨by (rw [A4.out]) <;> rfl,B2⟩)
 case rest=>
  obtain ⟨I3,rfl⟩:=hcut
  subst I3
  clear A1 B6
  have A4:Hid (R=if (FiS.Gt Tn A).any PF=true then 1 else 0):=hZ9 (by rw [B3.out];rfl)
  clear B3
  have G8:(kd==7)=decide (kd=7):=by by_cases h:kd=7 <;> simp [h]
  go_wp2_with fail
  clear q0 q1 q2 q3 q4 q5 q6
  go_loopw [69] (fun i wr=>∃j:Nat,j<=NA/\i=.int .i64 j/\Whole wr w.heap.size 36 #[.int .i64 kd,.string ⟨at0.toArray⟩,.string ⟨vl.toArray⟩,.string ⟨fs.toArray⟩,.string ⟨ls.toArray⟩,.slice a5 AL c5,.slice a6 PL c6]/\Below w.heap.size w wr/\Hid (∀t (ht:t<A.length),t<j->(RuS.typeOf (A[t]'ht).typ).1=Tn->∀y ∈ (A[t]'ht).vals,PF y=false)) (fun i _=>NA - (intOf i).toNat)
  case atStart=>exact ⟨0,Nat.zero_le _,rfl,E0,B2,hZ9 (fun t ht h=>absurd h (Nat.not_lt_zero _))⟩
  case round=>
   obtain ⟨j,hj,rfl,hw,hb,B1⟩:=hrel
   clear E0 B2
   by_cases I1:j<NA
   · have A2:j<A.length:=by rw [G2.out];exact I1
     have G1:=B0.out j
     obtain ⟨g,o,rfl,hg,_,hra⟩:=D6.out j A2
     obtain ⟨c0,a2,p2,c1,G4,hu⟩:=Bl.parts hra
     have I9:=A9.out j A2
     obtain ⟨G6,C4⟩:=C9.out j A2
     have A0:Hid (((RuS.typeOf (A[j]'A2).typ).1=Tn->∀y ∈ (A[j]'A2).vals,PF y=false)->∀t (ht:t<A.length),t<j+1->(RuS.typeOf (A[t]'ht).typ).1=Tn->∀y ∈ (A[t]'ht).vals,PF y=false):=hZ9 (fun h t ht H2=>by
      rcases Nat.lt_or_eq_of_le (Nat.le_of_lt_succ H2) with h2 | rfl
      · exact B1.out t ht h2
      · exact h)
     have B7:Hid (∀m (hm:m<(A[j]'A2).vals.length),(RuS.typeOf (A[j]'A2).typ).1=Tn->PF ((A[j]'A2).vals[m]'hm)=true->R=1):=hZ9 (fun m hm ht hp=>by rw [A4.out,if_pos (G1 m A2 ht hm hp)])
     clear hra D6 A9 C9 B0 C8 B1 G1 A4
     generalize A[j]=at1 at*
     obtain ⟨ty,vals⟩:=at1
     simp only at c0 c1 G4 hu I9 G6 C4 A0 B7
     obtain ⟨n2,E5⟩:∃k,vals.length=k:=⟨_,rfl⟩
     have F7:=hZ9 E5
     rw [E5] at c1 G4 G6 hu
     clear E5
     replace c0:wr.cell? ⟨g,o+j*2,none⟩=some (.string ⟨ty.toArray⟩):=(hb.cell (p:=⟨g,o+j*2,none⟩) hg).trans c0
     replace c1:wr.cell? ⟨g,o+j*2+1,none⟩=some (.slice a2 n2 p2):=(hb.cell (p:=⟨g,o+j*2+1,none⟩) hg).trans c1
     have A8:∀W,Calls Tryz.prog 51 #[.string ⟨ty.toArray⟩] W (Am ty W):=fun W=>FW ⟨ty.toArray⟩ (by rw [Ef];omega) W
     unfold Am at A8
     have E8:=Af wr (.cells #[.string ⟨ty.toArray⟩,.slice a2 n2 p2] 56)
     have D9:=Whole.made wr 56 #[.string ⟨ty.toArray⟩,.slice a2 n2 p2]
     have F4:=hb.trans (E8.mono hb.size)
     have C2:=hw.call E8
     have z0:=D9.cell 0
     simp only [List.getElem?_toArray,List.getElem?_cons_zero] at z0
     have J5:(0:Int)<=(j:Int):=by omega
     have J2:(j:Int)<(NA:Int):=by omega
     generalize RuS.typeOf ty=TY at*
     obtain ⟨C3,J7⟩:=TY
     simp only at A8 A0 B7
     clear hw E8 hb
     go_wp2_with fail
     refine (A8 _).mono ?_;rintro e w4 ⟨rfl,D3⟩
     have F6:=F4.trans (D3.mono F4.size)
     have F5:=C2.call D3
     have C0:=D9.call D3
     have z1:=C0.cell 1
     simp only [List.getElem?_toArray,List.getElem?_cons_succ,List.getElem?_cons_zero] at z1
     clear A8 C2 D9 z0 c0 c1 F4 D3 C0
     by_cases hq:C3=Tn
     case neg=>
      have I5:(C3 !=Tn)=true:=by simpa using hq
      have J6:(C3==Tn)=false:=by simpa using hq
      have E7:=hZ9 (A0.out (fun h=>absurd h hq))
      clear A0 B7 hq
      go_wp2_with fail
      go_roundw
      case rel=>exact ⟨j+1,by omega,by go_num,F5,F6,E7⟩
      case measure=>simp [intOf];omega
     subst hq
     have I5:(C3 !=C3)=false:=by simp
     obtain ⟨a3,c3,e3,H0,B4⟩:=Ae.at hu
     injection e3 with e4 e5 e6
     rw [<-e4] at B4
     have E2:=hZ9 B4
     clear B4 e4 e5 e6 hu H0
     go_wp2_with fail
     clear z1
     go_loopw [85] (fun i wn=>∃m:Nat,m<=n2/\i=.int .i64 m/\Whole wn w.heap.size 36 #[.int .i64 kd,.string ⟨at0.toArray⟩,.string ⟨vl.toArray⟩,.string ⟨fs.toArray⟩,.string ⟨ls.toArray⟩,.slice a5 AL c5,.slice a6 PL c6]/\Below w.heap.size w wn/\Hid (∀t (ht:t<vals.length),t<m->PF (vals[t]'ht)=false)) (fun i _=>n2 - (intOf i).toNat)
     case atStart=>exact ⟨0,Nat.zero_le _,rfl,F5,F6,hZ9 (fun t ht h=>absurd h (Nat.not_lt_zero _))⟩
     case round=>
      obtain ⟨m,hm,rfl,hw,hb,HV⟩:=hrel
      clear F5 F6
      obtain ⟨q0,q1,q2,q3,q4,q5,q6⟩:=hw.seven
      by_cases F0:m<n2
      · have A5:m<vals.length:=by rw [F7.out];exact F0
        obtain ⟨g3,o3,H5,J1,_,G0⟩:=E2.out m A5
        have I4:=C4 _ (List.getElem_mem A5)
        have B8:=hZ9 (B7.out m A5 (by first | rfl | trivial))
        have C6:Hid (PF (vals[m]'A5)=false->∀t (ht:t<vals.length),t<m+1->PF (vals[t]'ht)=false):=hZ9 (fun h t ht H9=>by
         rcases Nat.lt_or_eq_of_le (Nat.le_of_lt_succ H9) with h2 | rfl
         · exact HV.out t ht h2
         · exact h)
        generalize vals[m]=y at*
        have I7:wr.cell? ⟨g3,o3+m,none⟩=wr.cell? ⟨g3,o3+m,none⟩:=rfl
        subst H5
        have G5:∀W,Below w.heap.size w W->W.cell? ⟨g3,o3+m,none⟩=some (.string ⟨y.toArray⟩):=fun W J0=>by
         have:w.cell? ⟨g3,o3+m*1,none⟩=some (Ac y):=G0
         rw [Nat.mul_one] at this
         exact Ab this J0
        have J3:=G5 _ hb
        have J4:(0:Int)<=(m:Int):=by omega
        have J9:(m:Int)<(n2:Int):=by omega
        have D5:=hZ9 (B5.out y)
        have A6:=A3.out y sy _ rfl (HH.out.call hb) I4 (hE.below hb)
        clear G5 G0 I7 A3 HH E2 B5 B7 HV
        by_cases h7:kd=7
        case pos=>
         have I6:(kd==7)=true:=by simpa using h7
         have E4:Hid (R=1):=hZ9 (B8.out (by rw [D5.out];simp [h7]))
         clear A6 B8 C6 D5 h7 G8 A0
         go_wp2_with fail
         go_ret
         exact ⟨by (rw [E4.out]) <;> rfl,hb⟩
        have I6:(kd==7)=false:=by simpa using h7
        have A7:Hid (PF y=VE y):=hZ9 (by rw [D5.out];simp [h7])
        obtain ⟨vy,G3⟩:∃b,VE y=b:=⟨_,rfl⟩
        rw [G3] at A6 A7
        clear G3 D5 h7 G8
        cases vy with
        | true=>
         have E4:Hid (R=1):=hZ9 (B8.out A7.out)
         clear B8 C6 A7 A0
         go_wp2_with fail
         refine A6.mono ?_;rintro e w5 ⟨rfl,C1⟩
         have E3:=hb.trans (C1.mono hb.size)
         clear A6 q0 q1 q2 q3 q4 q5 q6
         go_wp2_with fail
         go_ret
         exact ⟨by (rw [E4.out]) <;> rfl,E3⟩
        | false=>
         have I2:=hZ9 (C6.out A7.out)
         clear B8 C6 A7 A0
         go_wp2_with fail
         refine A6.mono ?_;rintro e w5 ⟨rfl,C1⟩
         have E3:=hb.trans (C1.mono hb.size)
         have H4:=hw.call C1
         clear A6 q0 q1 q2 q3 q4 q5 q6 hw C1
         go_wp2_with fail
         go_roundw
         case rel=>exact ⟨m+1,by omega,by go_num,H4,E3,I2⟩
         case measure=>simp [intOf];omega
      · have I0:m=n2:=by omega
        have E7:=hZ9 (A0.out (fun _ y hy=>by
         obtain ⟨t,ht,rfl⟩:=List.mem_iff_getElem.1 hy
         exact HV.out t ht (by rw [F7.out] at ht;omega)))
        subst I0
        clear A0 B7 A3 HH E2 B5 HV
        go_wp2_with fail
        go_roundw
        case rel=>exact ⟨j+1,by omega,by go_num,hw,hb,E7⟩
        case measure=>simp [intOf];omega
   · have H3:j=NA:=by omega
     have I8:Hid (R=0):=hZ9 (by rw [A4.out,if_neg];rw [C8.out (fun t ht h y hy=>B1.out t ht (by rw [G2.out] at ht;omega) h y hy)];simp)
     subst H3
     clear D6 A9 C9 B0 C8 B1 A4 A3 B5 HH
     go_wp2_with fail
     go_ret
     exact ⟨by (rw [I8.out]) <;> rfl,hb⟩
end
section
namespace FiS
theorem TP:∀{ps:List Fi},allL ps=true->∀j (hj:j<ps.length),Ey (ps[j]'hj)=true
 | [],_,j,hj=>by simp at hj
 | p :: r,h,0,_=>by rw [allL,Bool.and_eq_true] at h;exact h.1
 | p :: r,h,j+1,hj=>by
  rw [allL,Bool.and_eq_true] at h
  exact TP h.2 j (by simpa using hj)
theorem AdM {a v f l:List UInt8} {s:List (List UInt8)} {ps:List Fi} (h:KV (.mk 2 a v f l s ps)=true):ps.length=1:=by
 have h:PO 2 a v f l s ps.length=true:=h
 unfold PO at h
 rw [if_neg (by decide),if_pos rfl] at h
 simp only [Bool.and_eq_true,decide_eq_true_eq] at h
 exact h.2
end FiS
open Go.RowKit
open FiS (Fi)
attribute [local go_sem ↓] Go.wp_at_zero Go.wp_at_succ
theorem Aae (b:Bool) (w:World):Calls Tryz.prog 127 #[.bool b] w fun e w'=>e=.returned (.int .i64 (if b=true then 1 else 0))/\w=w':=by
 cases b
 all_goals
  go_enter Tryz.func127,Tryz.ntmps127
  go_wp2_with fail
  go_ret
  exact ⟨rfl,rfl⟩
def EvC (A:List EnS.At) (n:Nat):Prop:=∀(x:Fi) (v u:Value) (w:World),Dq n w v x->FiS.wdF 20000 x->FiS.Ey x=true->BK w u A->LJ A->Env w->Calls Tryz.prog 93 #[v,u] w (LK (FiS.AP A x) w)
theorem AeJ (A:List EnS.At):∀n,EvC A n:=IA (fun n IH=>by
 unfold EvC at*
 intro x v u w h E3 C8 hA hf hE
 have E9:=fun W h hA hE=>Acw n x v u A W h E3 hA hf hE
 have HH:=hZ9 h
 obtain ⟨kd,A8,vl,fs,ls,an,ps⟩:=x
 obtain ⟨a5,c5,a6,c6,hv,D8,E5,D2⟩:=FiV.parts h
 have hv:v=.agg #[.int .i64 kd,.string ⟨A8.toArray⟩,.string ⟨vl.toArray⟩,.string ⟨fs.toArray⟩,.string ⟨ls.toArray⟩,.slice a5 an.length c5,.slice a6 ps.length c6]:=hv
 subst hv
 have D8:Ai w (.slice a5 an.length c5) an:=D8
 have E5:ps.length<=c6:=E5
 have D2:BR n (fun _=>True) w (.slice a6 ps.length c6) ps:=D2
 rw [FiS.wdF] at E3
 obtain ⟨_,_,_,F2,F0⟩:=E3
 have B5:=hZ9 (FiS.JW.1 F0)
 clear F0
 rw [FiS.Ey,Bool.and_eq_true] at C8
 obtain ⟨A7,C7⟩:=C8
 have A5:=hZ9 (FiS.TP C7)
 have B7:Hid (FiS.AP A (.mk kd A8 vl fs ls an ps)=if kd=0\/kd=1 then FiS.Ed A kd (1 - kd) ps else if kd=2 then FiS.notE (FiS.Ad0 A ps) else FiS.Fe A kd A8 vl fs ls an):=hZ9 (by rw [FiS.AP])
 obtain ⟨R,hR⟩:∃r,FiS.AP A (.mk kd A8 vl fs ls an ps)=r:=⟨_,rfl⟩
 rw [hR] at B7⊢
 clear hR
 have C1:=hZ9 (fun acc j (hj:j<ps.length)=>FiS.QO (A:=A) (acc:=acc) hj)
 have A3:=hZ9 (fun k acc j (hj:j<ps.length) h=>FiS.OO A k acc ps j hj h)
 have A2:=hZ9 (fun k acc h=>@FiS.QP A k acc ps h)
 have B9:Hid (ps.take ps.length=ps):=hZ9 (List.take_length)
 obtain ⟨AL,C5⟩:∃m,an.length=m:=⟨_,rfl⟩
 obtain ⟨PL,C4⟩:∃m,ps.length=m:=⟨_,rfl⟩
 have F4:=hZ9 C5
 have D3:=hZ9 C4
 rw [C5] at D8
 rw [C4] at E5 D2
 try rw [C5]
 try rw [C4]
 have B4:∀W,Dq n W (.agg #[.int .i64 kd,.string ⟨A8.toArray⟩,.string ⟨vl.toArray⟩,.string ⟨fs.toArray⟩,.string ⟨ls.toArray⟩,.slice a5 AL c5,.slice a6 PL c6]) (.mk kd A8 vl fs ls an ps)->BK W u A->Env W->Calls Tryz.prog 128 #[.agg #[.int .i64 kd,.string ⟨A8.toArray⟩,.string ⟨vl.toArray⟩,.string ⟨fs.toArray⟩,.string ⟨ls.toArray⟩,.slice a5 AL c5,.slice a6 PL c6],u] W (LK (FiS.Fe A kd A8 vl fs ls an) W):=fun W h hA hE=>by
  have:=E9 W (by rw [<-C5,<-C4] at h;exact h) hA hE
  rw [<-C5,<-C4]
  exact this
 rw [C4] at B9 F2
 have HH:Hid (Dq n w (.agg #[.int .i64 kd,.string ⟨A8.toArray⟩,.string ⟨vl.toArray⟩,.string ⟨fs.toArray⟩,.string ⟨ls.toArray⟩,.slice a5 AL c5,.slice a6 PL c6]) (.mk kd A8 vl fs ls an ps)):=hZ9 (by rw [<-C5,<-C4];exact h)
 have A6:=Af w (.cells #[.int .i64 kd,.string ⟨A8.toArray⟩,.string ⟨vl.toArray⟩,.string ⟨fs.toArray⟩,.string ⟨ls.toArray⟩,.slice a5 AL c5,.slice a6 PL c6] 36)
 have C6:=Whole.made w 36 #[.int .i64 kd,.string ⟨A8.toArray⟩,.string ⟨vl.toArray⟩,.string ⟨fs.toArray⟩,.string ⟨ls.toArray⟩,.slice a5 AL c5,.slice a6 PL c6]
 have B8:=hZ9 (fun j (hj:j<ps.length)=>BR.at D2 j hj)
 obtain ⟨q0,q1,q2,q3,q4,q5,q6⟩:=C6.seven
 have hA0:=Ao.call hA A6
 have D6:=hE.below A6
 unfold LK at*
 clear E9 h D8 D2
 by_cases D9:kd=0
 · subst D9
   have HR:Hid (R=FiS.Ed A 0 1 ps):=hZ9 (by rw [B7.out,if_pos (by decide)];rfl)
   clear B7 B4 HH A7 hA0 D6
   go_enter Tryz.func93,Tryz.ntmps93
   go_wp2_with fail
   clear q0 q1 q2 q3 q4 q5 q6
   go_loopw [5,21] (fun r i wr=>∃(j:Nat) (acc:Int),j<=PL/\i=.int .i64 j/\r=.int .i64 acc/\Hid (acc=FiS.FA A 1 (ps.take j)/\∀t (ht:t<ps.length),t<j->FiS.AP A (ps[t]'ht)≠0)/\Whole wr w.heap.size 36 #[.int .i64 0,.string ⟨A8.toArray⟩,.string ⟨vl.toArray⟩,.string ⟨fs.toArray⟩,.string ⟨ls.toArray⟩,.slice a5 AL c5,.slice a6 PL c6]/\Below w.heap.size w wr) (fun _ i _=>PL - (intOf i).toNat)
   case atStart=>exact ⟨0,_,Nat.zero_le _,rfl,rfl,hZ9 ⟨rfl,fun t ht h=>absurd h (Nat.not_lt_zero _)⟩,C6,A6⟩
   case round=>
    obtain ⟨j,acc,hj,rfl,rfl,A1,hw,hb⟩:=hrel
    clear C6 A6
    by_cases E2:j<PL
    · have A0:j<ps.length:=by rw [D3.out];exact E2
      have D4:=B5.out j A0
      have D5:=A5.out j A0
      have h3:=FiS.Jv A (ps[j]'A0)
      have HS:Hid (FiS.AP A (ps[j]'A0)=0->R=0):=hZ9 (fun h=>by rw [HR.out];exact A3.out 0 _ j A0 h)
      have HN:Hid (FiS.AP A (ps[j]'A0)≠0->(if FiS.AP A (ps[j]'A0)=-1 then -1 else acc)=FiS.FA A 1 (ps.take (j+1))/\∀t (ht:t<ps.length),t<j+1->FiS.AP A (ps[t]'ht)≠0):=hZ9 (fun h=>⟨by rw [C1.out _ j A0,<-A1.out.1],fun t ht E1=>by
       rcases Nat.lt_or_eq_of_le (Nat.le_of_lt_succ E1) with h2 | rfl
       · exact A1.out.2 t ht h2
       · exact h⟩)
      obtain ⟨d,rfl,g,o,rfl,hg,b5,d5,b6,d6,A9,y0,y1,y2,y3,y4,y5,y6⟩:=B8.out j A0
      have A9:=A9.call hb
      have y0:=(hb.cell (p:=⟨g,o+j*7,none⟩) hg).trans y0
      have y1:=(hb.cell (p:=⟨g,o+j*7+1,none⟩) hg).trans y1
      have y2:=(hb.cell (p:=⟨g,o+j*7+2,none⟩) hg).trans y2
      have y3:=(hb.cell (p:=⟨g,o+j*7+3,none⟩) hg).trans y3
      have y4:=(hb.cell (p:=⟨g,o+j*7+4,none⟩) hg).trans y4
      have y5:=(hb.cell (p:=⟨g,o+j*7+5,none⟩) hg).trans y5
      have y6:=(hb.cell (p:=⟨g,o+j*7+6,none⟩) hg).trans y6
      have A4:=fun v W h hA hE=>IH d rfl (ps[j]'A0) v u W h D4 D5 hA hf hE
      clear IH B8 C1 A3 A2 B5 A5 A1 B9
      generalize ps[j]=p at*
      generalize p.any.length=PA at*
      generalize p.parts.length=PP at*
      obtain ⟨E,C0⟩:∃e,FiS.AP A p=e:=⟨_,rfl⟩
      rw [C0] at HS HN h3 A4
      clear C0
      have F3:(0:Int)<=(j:Int):=by omega
      have F1:(j:Int)<(PL:Int):=by omega
      have B6:=Af wr (.cells #[.int .i64 p.kind,.string ⟨p.attr.toArray⟩,.string ⟨p.value.toArray⟩,.string ⟨p.first.toArray⟩,.string ⟨p.last.toArray⟩,.slice b5 PA d5,.slice b6 PP d6] 36)
      have C9:=Whole.made wr 36 #[.int .i64 p.kind,.string ⟨p.attr.toArray⟩,.string ⟨p.value.toArray⟩,.string ⟨p.first.toArray⟩,.string ⟨p.last.toArray⟩,.slice b5 PA d5,.slice b6 PP d6]
      obtain ⟨x0,x1,x2,x3,x4,x5,x6⟩:=C9.seven
      have B3:=hb.trans (B6.mono hb.size)
      have D0:=hw.call B6
      have hc:=A4 _ _ (A9.call B6) (Ao.call hA B3) (hE.below B3)
      clear A4 A9 C9 B6 hw hb
      go_wp2_with fail
      refine hc.mono ?_;rintro e w2 ⟨rfl,B0⟩
      have B2:=B3.trans (B0.mono B3.size)
      have C3:=D0.call B0
      clear hc x0 x1 x2 x3 x4 x5 x6 D0 B0 B3
      obtain ⟨q0,q1,q2,q3,q4,q5,q6⟩:=C3.seven
      rcases h3 with rfl | rfl | rfl
      · have hn:=HN.out (by decide)
        have C2:Hid ((-1:Int)=FiS.FA A 1 (ps.take (j+1))/\∀t (ht:t<ps.length),t<j+1->FiS.AP A (ps[t]'ht)≠0):=hZ9 ⟨by rw [<-hn.1];rfl,hn.2⟩
        clear HS HN hn
        go_wp2_with fail
        clear q0 q1 q2 q3 q4 q5 q6
        go_roundw
        case rel=>exact ⟨j+1,_,by omega,by go_num,rfl,C2,C3,B2⟩
        case measure=>simp [intOf];omega
      · have B1:=hZ9 (HS.out rfl)
        clear HS HN
        go_wp2_with fail
        go_ret
        exact ⟨by (rw [B1.out]) <;> rfl,B2⟩
      · have hn:=HN.out (by decide)
        have C2:Hid (acc=FiS.FA A 1 (ps.take (j+1))/\∀t (ht:t<ps.length),t<j+1->FiS.AP A (ps[t]'ht)≠0):=hZ9 ⟨by rw [<-hn.1];rfl,hn.2⟩
        clear HS HN hn
        go_wp2_with fail
        clear q0 q1 q2 q3 q4 q5 q6
        go_roundw
        case rel=>exact ⟨j+1,_,by omega,by go_num,rfl,C2,C3,B2⟩
        case measure=>simp [intOf];omega
    · have D1:j=PL:=by omega
      have B1:Hid (R=acc):=hZ9 (by
       rw [HR.out,A2.out 0 1 (fun t ht=>A1.out.2 t ht (by rw [D3.out] at ht;omega)),A1.out.1,D1,B9.out])
      subst D1
      clear IH B8 C1 A3 A2 B5 A5 A1 B9
      go_wp2_with fail
      go_ret
      exact ⟨by (rw [B1.out]) <;> rfl,hb⟩
 by_cases E6:kd=1
 · subst E6
   have HR:Hid (R=FiS.Ed A 1 0 ps):=hZ9 (by rw [B7.out,if_pos (by decide)];rfl)
   clear B7 B4 HH A7 hA0 D6
   go_enter Tryz.func93,Tryz.ntmps93
   go_wp2_with fail
   clear q0 q1 q2 q3 q4 q5 q6
   go_loopw [5,21] (fun r i wr=>∃(j:Nat) (acc:Int),j<=PL/\i=.int .i64 j/\r=.int .i64 acc/\Hid (acc=FiS.FA A 0 (ps.take j)/\∀t (ht:t<ps.length),t<j->FiS.AP A (ps[t]'ht)≠1)/\Whole wr w.heap.size 36 #[.int .i64 1,.string ⟨A8.toArray⟩,.string ⟨vl.toArray⟩,.string ⟨fs.toArray⟩,.string ⟨ls.toArray⟩,.slice a5 AL c5,.slice a6 PL c6]/\Below w.heap.size w wr) (fun _ i _=>PL - (intOf i).toNat)
   case atStart=>exact ⟨0,_,Nat.zero_le _,rfl,rfl,hZ9 ⟨rfl,fun t ht h=>absurd h (Nat.not_lt_zero _)⟩,C6,A6⟩
   case round=>
    obtain ⟨j,acc,hj,rfl,rfl,A1,hw,hb⟩:=hrel
    clear C6 A6
    by_cases E2:j<PL
    · have A0:j<ps.length:=by rw [D3.out];exact E2
      have D4:=B5.out j A0
      have D5:=A5.out j A0
      have h3:=FiS.Jv A (ps[j]'A0)
      have HS:Hid (FiS.AP A (ps[j]'A0)=1->R=1):=hZ9 (fun h=>by rw [HR.out];exact A3.out 1 _ j A0 h)
      have HN:Hid (FiS.AP A (ps[j]'A0)≠1->(if FiS.AP A (ps[j]'A0)=-1 then -1 else acc)=FiS.FA A 0 (ps.take (j+1))/\∀t (ht:t<ps.length),t<j+1->FiS.AP A (ps[t]'ht)≠1):=hZ9 (fun h=>⟨by rw [C1.out _ j A0,<-A1.out.1],fun t ht E1=>by
       rcases Nat.lt_or_eq_of_le (Nat.le_of_lt_succ E1) with h2 | rfl
       · exact A1.out.2 t ht h2
       · exact h⟩)
      obtain ⟨d,rfl,g,o,rfl,hg,b5,d5,b6,d6,A9,y0,y1,y2,y3,y4,y5,y6⟩:=B8.out j A0
      have A9:=A9.call hb
      have y0:=(hb.cell (p:=⟨g,o+j*7,none⟩) hg).trans y0
      have y1:=(hb.cell (p:=⟨g,o+j*7+1,none⟩) hg).trans y1
      have y2:=(hb.cell (p:=⟨g,o+j*7+2,none⟩) hg).trans y2
      have y3:=(hb.cell (p:=⟨g,o+j*7+3,none⟩) hg).trans y3
      have y4:=(hb.cell (p:=⟨g,o+j*7+4,none⟩) hg).trans y4
      have y5:=(hb.cell (p:=⟨g,o+j*7+5,none⟩) hg).trans y5
      have y6:=(hb.cell (p:=⟨g,o+j*7+6,none⟩) hg).trans y6
      have A4:=fun v W h hA hE=>IH d rfl (ps[j]'A0) v u W h D4 D5 hA hf hE
      clear IH B8 C1 A3 A2 B5 A5 A1 B9
      generalize ps[j]=p at*
      generalize p.any.length=PA at*
      generalize p.parts.length=PP at*
      obtain ⟨E,C0⟩:∃e,FiS.AP A p=e:=⟨_,rfl⟩
      rw [C0] at HS HN h3 A4
      clear C0
      have F3:(0:Int)<=(j:Int):=by omega
      have F1:(j:Int)<(PL:Int):=by omega
      have B6:=Af wr (.cells #[.int .i64 p.kind,.string ⟨p.attr.toArray⟩,.string ⟨p.value.toArray⟩,.string ⟨p.first.toArray⟩,.string ⟨p.last.toArray⟩,.slice b5 PA d5,.slice b6 PP d6] 36)
      have C9:=Whole.made wr 36 #[.int .i64 p.kind,.string ⟨p.attr.toArray⟩,.string ⟨p.value.toArray⟩,.string ⟨p.first.toArray⟩,.string ⟨p.last.toArray⟩,.slice b5 PA d5,.slice b6 PP d6]
      obtain ⟨x0,x1,x2,x3,x4,x5,x6⟩:=C9.seven
      have B3:=hb.trans (B6.mono hb.size)
      have D0:=hw.call B6
      have hc:=A4 _ _ (A9.call B6) (Ao.call hA B3) (hE.below B3)
      clear A4 A9 C9 B6 hw hb
      go_wp2_with fail
      refine hc.mono ?_;rintro e w2 ⟨rfl,B0⟩
      have B2:=B3.trans (B0.mono B3.size)
      have C3:=D0.call B0
      clear hc x0 x1 x2 x3 x4 x5 x6 D0 B0 B3
      obtain ⟨q0,q1,q2,q3,q4,q5,q6⟩:=C3.seven
      rcases h3 with rfl | rfl | rfl
      · have hn:=HN.out (by decide)
        have C2:Hid ((-1:Int)=FiS.FA A 0 (ps.take (j+1))/\∀t (ht:t<ps.length),t<j+1->FiS.AP A (ps[t]'ht)≠1):=hZ9 ⟨by rw [<-hn.1];rfl,hn.2⟩
        clear HS HN hn
        go_wp2_with fail
        clear q0 q1 q2 q3 q4 q5 q6
        go_roundw
        case rel=>exact ⟨j+1,_,by omega,by go_num,rfl,C2,C3,B2⟩
        case measure=>simp [intOf];omega
      · have hn:=HN.out (by decide)
        have C2:Hid (acc=FiS.FA A 0 (ps.take (j+1))/\∀t (ht:t<ps.length),t<j+1->FiS.AP A (ps[t]'ht)≠1):=hZ9 ⟨by rw [<-hn.1];rfl,hn.2⟩
        clear HS HN hn
        go_wp2_with fail
        clear q0 q1 q2 q3 q4 q5 q6
        go_roundw
        case rel=>exact ⟨j+1,_,by omega,by go_num,rfl,C2,C3,B2⟩
        case measure=>simp [intOf];omega
      · have B1:=hZ9 (HS.out rfl)
        clear HS HN
        go_wp2_with fail
        go_ret
        exact ⟨by (rw [B1.out]) <;> rfl,B2⟩
    · have D1:j=PL:=by omega
      have B1:Hid (R=acc):=hZ9 (by
       rw [HR.out,A2.out 1 0 (fun t ht=>A1.out.2 t ht (by rw [D3.out] at ht;omega)),A1.out.1,D1,B9.out])
      subst D1
      clear IH B8 C1 A3 A2 B5 A5 A1 B9
      go_wp2_with fail
      go_ret
      exact ⟨by (rw [B1.out]) <;> rfl,hb⟩
 have k0:(kd==0)=false:=by simpa using D9
 have k1:(kd==1)=false:=by simpa using E6
 clear C1 A3 A2 B9
 by_cases D7:kd=2
 · subst D7
   have E7:ps.length=1:=FiS.AdM A7
   have E4:PL=1:=by rw [<-D3.out];exact E7
   subst E4
   have A0:0<ps.length:=by omega
   have HR:Hid (R=FiS.notE (FiS.AP A (ps[0]'A0))):=hZ9 (by
    rw [B7.out,if_neg (by decide),if_pos rfl]
    match ps,A0 with
    | p :: r,_=>rfl)
   have D4:=B5.out 0 A0
   have D5:=A5.out 0 A0
   have h3:=FiS.Jv A (ps[0]'A0)
   obtain ⟨d,rfl,g,o,rfl,hg,b5,d5,b6,d6,A9,y0,y1,y2,y3,y4,y5,y6⟩:=B8.out 0 A0
   have A9:=A9.call A6
   simp only [Nat.zero_mul,Nat.add_zero] at y0 y1 y2 y3 y4 y5 y6
   have y0:=(A6.cell (p:=⟨g,o,none⟩) hg).trans y0
   have y1:=(A6.cell (p:=⟨g,o+1,none⟩) hg).trans y1
   have y2:=(A6.cell (p:=⟨g,o+2,none⟩) hg).trans y2
   have y3:=(A6.cell (p:=⟨g,o+3,none⟩) hg).trans y3
   have y4:=(A6.cell (p:=⟨g,o+4,none⟩) hg).trans y4
   have y5:=(A6.cell (p:=⟨g,o+5,none⟩) hg).trans y5
   have y6:=(A6.cell (p:=⟨g,o+6,none⟩) hg).trans y6
   have A4:=fun v W h hA hE=>IH d rfl (ps[0]'A0) v u W h D4 D5 hA hf hE
   clear IH B8 B5 A5 B7 B4 HH A7
   generalize ps[0]=p at*
   generalize p.any.length=PA at*
   generalize p.parts.length=PP at*
   obtain ⟨E,C0⟩:∃e,FiS.AP A p=e:=⟨_,rfl⟩
   rw [C0] at HR h3 A4
   clear C0
   have hc:=A4 _ _ A9 hA0 D6
   have E0:=fun b w=>Aae b w
   clear A4 A9
   go_enter Tryz.func93,Tryz.ntmps93
   go_wp2_with fail
   refine hc.mono ?_;rintro e w2 ⟨rfl,B0⟩
   have B2:=A6.trans (B0.mono A6.size)
   clear hc q0 q1 q2 q3 q4 q5 q6 y0 y1 y2 y3 y4 y5 y6 B0
   rcases h3 with rfl | rfl | rfl
   · have B1:Hid (R=-1):=HR
     clear HR E0
     go_wp2_with fail
     go_ret
     exact ⟨by (rw [B1.out]) <;> rfl,B2⟩
   · have B1:Hid (R=1):=HR
     clear HR
     go_wp2_with fail
     refine (E0 _ _).mono ?_;rintro e w3 ⟨rfl,rfl⟩
     go_wp2_with fail
     go_ret
     exact ⟨by (rw [B1.out]) <;> rfl,B2⟩
   · have B1:Hid (R=0):=HR
     clear HR
     go_wp2_with fail
     refine (E0 _ _).mono ?_;rintro e w3 ⟨rfl,rfl⟩
     go_wp2_with fail
     go_ret
     exact ⟨by (rw [B1.out]) <;> rfl,B2⟩
 have k2:(kd==2)=false:=by simpa using D7
 have HR:Hid (R=FiS.Fe A kd A8 vl fs ls an):=hZ9 (by rw [B7.out,if_neg (by omega),if_neg D7])
 have hc:=B4 _ (HH.out.call A6) hA0 D6
 clear B7 B4 IH B8 B5 A5 A7 D9 E6 D7 HH
 obtain ⟨LE,E8⟩:∃r,FiS.Fe A kd A8 vl fs ls an=r:=⟨_,rfl⟩
 rw [E8] at hc HR
 clear E8
 go_enter Tryz.func93,Tryz.ntmps93
 go_wp2_with fail
 refine hc.mono ?_;rintro e w2 ⟨rfl,B0⟩
 have B2:=A6.trans (B0.mono A6.size)
 clear hc q0 q1 q2 q3 q4 q5 q6 B0
 go_wp2_with fail
 go_ret
 exact ⟨by (rw [HR.out]) <;> rfl,B2⟩)
theorem Acx (n:Nat) (x:Fi) (v u:Value) (A:List EnS.At) (w:World) (h:Dq n w v x) (B1:FiS.wdF 20000 x) (hA:BK w u A) (hf:LJ A) (hE:Env w):Calls Tryz.prog 58 #[v,u] w (LK (FiS.MO A x) w):=by
 have B2:=fun W h=>PZ n x v W h B1
 have A7:=fun W ha h hA hE=>AeJ A n x v u W h B1 ha hA hf hE
 have A3:Hid (FiS.MO A x=if FiS.formedS x=true then FiS.AP A x else -1):=hZ9 rfl
 have B0:Hid (FiS.formedS x=true->FiS.Ey x=true):=hZ9 (fun h=>by unfold FiS.formedS at h;simp only [Bool.and_eq_true] at h;exact h.2.2)
 obtain ⟨R,hR⟩:∃r,FiS.MO A x=r:=⟨_,rfl⟩
 obtain ⟨E,B3⟩:∃r,FiS.AP A x=r:=⟨_,rfl⟩
 rw [hR] at A3⊢
 rw [B3] at A3 A7
 clear hR B3
 unfold CH LK at*
 have HH:=hZ9 h
 obtain ⟨a5,c5,a6,c6,hv,_,_,_⟩:=FiV.parts h
 generalize x.any.length=AL at*
 generalize x.parts.length=PL at*
 generalize x.kind=kd at*
 generalize x.attr=at0 at*
 generalize x.value=vl at*
 generalize x.first=fs at*
 generalize x.last=ls at*
 subst hv
 have A5:=Af w (.cells #[.int .i64 kd,.string ⟨at0.toArray⟩,.string ⟨vl.toArray⟩,.string ⟨fs.toArray⟩,.string ⟨ls.toArray⟩,.slice a5 AL c5,.slice a6 PL c6] 36)
 have A8:=Whole.made w 36 #[.int .i64 kd,.string ⟨at0.toArray⟩,.string ⟨vl.toArray⟩,.string ⟨fs.toArray⟩,.string ⟨ls.toArray⟩,.slice a5 AL c5,.slice a6 PL c6]
 obtain ⟨q0,q1,q2,q3,q4,q5,q6⟩:=A8.seven
 have A0:=B2 _ (h.call A5)
 clear B2 h
 cases A2:FiS.formedS x with
 | false=>
  rw [A2] at A0
  have A9:Hid (R=-1):=hZ9 (by rw [A3.out,A2];rfl)
  clear A2 A3 B0 A7 HH
  go_enter Tryz.func58,Tryz.ntmps58
  go_wp2_with fail
  refine A0.mono ?_;rintro e w2 ⟨rfl,A6⟩
  have A1:=A5.trans (A6.mono A5.size)
  clear A0
  go_wp2_with fail
  go_ret
  exact ⟨by (rw [A9.out]) <;> rfl,A1⟩
 | true=>
  rw [A2] at A0
  have A9:Hid (R=E):=hZ9 (by rw [A3.out,A2];rfl)
  have A4:=fun W h hA hE=>A7 W (B0.out A2) h hA hE
  clear A2 A3 B0 A7
  go_enter Tryz.func58,Tryz.ntmps58
  go_wp2_with fail
  refine A0.mono ?_;rintro e w2 ⟨rfl,A6⟩
  have A1:=A5.trans (A6.mono A5.size)
  have B5:=A8.call A6
  clear A0 q0 q1 q2 q3 q4 q5 q6 A8
  obtain ⟨q0,q1,q2,q3,q4,q5,q6⟩:=B5.seven
  have hc:=A4 _ (HH.out.call A1) (Ao.call hA A1) (hE.below A1)
  clear A4 HH
  go_wp2_with fail
  refine hc.mono ?_;rintro e w3 ⟨rfl,B4⟩
  have B6:=A1.trans (B4.mono A1.size)
  clear hc q0 q1 q2 q3 q4 q5 q6
  go_wp2_with fail
  go_ret
  exact ⟨by (rw [A9.out]) <;> rfl,B6⟩
end
end Go.Proofs.YtgngjfjaelgaeaaGreatDoor
