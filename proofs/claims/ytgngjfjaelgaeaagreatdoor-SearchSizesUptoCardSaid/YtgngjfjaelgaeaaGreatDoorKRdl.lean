/- The walk of the document's 'pair': a pair, read. Conditions: as stated. -/
import Derived.Test.YtgngjfjaelgaeaaGreatDoorKRdo
import Derived.Test.YtgngjfjaelgaeaaGreatDoorKPhs
set_option maxRecDepth 100000
set_option maxHeartbeats 8000000
namespace Go.Proofs.YtgngjfjaelgaeaaGreatDoor
section
open Go.RowKit
theorem Whole.two {w:World} {g:Nat} {T:TypeId} {x y:Value} (h:Whole w g T #[x,y]) (a b:Value):
  w.cell? ⟨g,0,none⟩=some x/\w.cell? ⟨g,1,none⟩=some y/\w.frozen? ⟨g,0,none⟩=false/\w.frozen? ⟨g,1,none⟩=false/\
  (w.setCell ⟨g,0,none⟩ a).cell? ⟨g,1,none⟩=some y/\(w.setCell ⟨g,0,none⟩ a).frozen? ⟨g,1,none⟩=false/\
  ((w.setCell ⟨g,0,none⟩ a).setCell ⟨g,1,none⟩ b).cell? ⟨g,0,none⟩=some a/\((w.setCell ⟨g,0,none⟩ a).setCell ⟨g,1,none⟩ b).cell? ⟨g,1,none⟩=some b:=by
 have h1:=h.put 0 a
 have h2:=h1.put 1 b
 exact ⟨h.cell 0,h.cell 1,h.thaw 0,h.thaw 1,h1.cell 1,h1.thaw 1,h2.cell 0,h2.cell 1⟩
def Xm (l:List UInt8) (w:World) (e:Ending) (w':World):Prop:=
 ∃(t v:List UInt8) (b:Bool),e=.returned (.tuple #[.agg #[.string ⟨t.toArray⟩,.string ⟨v.toArray⟩],.bool b])/\(b=true->RdS.BV l=some (t,v))/\(b=false->RdS.BV l=none)/\Below w.heap.size w w'
theorem Aed {l:List UInt8} {k:Nat} (hk:k<l.length) (hc:l[k]=61) (hn:∀c ∈ l.take k,c≠61):RdS.nameOf l=l.take k/\l.contains 61=true:=by
 have e:l=l.take k++61 :: l.drop (k+1):=by
  conv=>lhs;rw [<-List.take_append_drop k l,List.drop_eq_getElem_cons hk,hc]
 refine ⟨?_,?_⟩
 · unfold RdS.nameOf
   conv=>lhs;rw [e]
   exact RdS.JQ hn
 · rw [List.contains_iff_mem,<-hc];exact List.getElem_mem hk
theorem AaN (nm:List UInt8):((RuS.typeOf nm).1=[])↔(RuS.typeOf nm).2=0:=by
 rcases RuS.typeM_all (RuS.lower nm) with e | e
 · have e2:RuS.typeOf nm=([],0):=e
   rw [e2];simp
 · have h1:1<=(RuS.typeOf nm).2:=e.1
   have h2:1<=(RuS.typeOf nm).1.length:=e.2.2.1
   constructor
   · intro h;rw [h] at h2;simp at h2
   · intro h;omega
theorem AaO (l:List UInt8) (hl:l.length<=1000000) (w:World):Calls Tryz.prog 148 #[.string ⟨l.toArray⟩] w (Xm l w):=by
 have A2:=Whole.made w 173 #[.string ⟨#[]⟩,.string ⟨#[]⟩]
 have hb0:=Af w (.cells #[.string ⟨#[]⟩,.string ⟨#[]⟩] 173)
 go_enter Tryz.func148,Tryz.ntmps148
 go_wp2_with fail
 generalize B4:(w.alloc (.cells #[.string ⟨#[]⟩,.string ⟨#[]⟩] 173))=w0 at*
 clear B4
 go_loop [4] (fun i=>∃k:Nat,k<=l.length/\i=.int .i64 k/\Hid (∀c ∈ l.take k,c≠61)) (fun i=>l.length - (intOf i).toNat)
 case atStart=>exact ⟨0,Nat.zero_le _,rfl,hZ9 (by simp)⟩
 case round=>
  obtain ⟨k,hk,rfl,A4⟩:=hrel
  by_cases B0:k<l.length
  · have A5:=hZ9 (fun h=>Aed B0 h A4.out)
    have A6:=hZ9 (List.take_succ_eq_append_getElem B0)
    generalize A7:l[k]=c at*
    have B6:∀h,(⟨l.toArray⟩:ByteArray)[k]'h=c:=fun _=>A7
    clear A7
    by_cases h61:c=61
    · have B5:((c.toNat:Int) !=61)=false:=by rw [h61];rfl
      have B2:=hZ9 (A5.out h61)
      have HP:Hid (RdS.BV l=if (RuS.typeOf (l.take k)).1=[] then none else (RdS.readS (l.drop (k+1))).map ((RuS.typeOf (l.take k)).1,·)):=hZ9 (by
       unfold RdS.BV
       rw [B2.out.2,B2.out.1,if_pos rfl,List.length_take,Nat.min_eq_left hk])
      have B7:((k:Int)==(l.length:Int))=false:=beq_eq_false_iff_ne.2 (by omega)
      have x1:(⟨l.toArray⟩:ByteArray).extract 0 k=⟨(l.take k).toArray⟩:=by rw [Gn,List.drop_zero]
      have x2:(⟨l.toArray⟩:ByteArray).extract (k+1) l.length=⟨(l.drop (k+1)).toArray⟩:=by rw [Gn,List.take_length]
      have ht:=fun w=>MD ⟨(l.take k).toArray⟩ (by show (l.take k).toArray.size<=_;rw [List.size_toArray,List.length_take];omega) w
      unfold Am at ht
      have dn:(⟨(l.take k).toArray⟩:ByteArray).data.toList=l.take k:=rfl
      rw [dn] at ht
      have hv:=fun w=>AaS (l.drop (k+1)) (by rw [List.length_drop];omega) w
      unfold BH at hv
      have B1:=hZ9 (AaN (l.take k))
      clear h61 dn A5 A6
      generalize RuS.typeOf (l.take k)=ty at*
      obtain ⟨t,sy⟩:=ty
      simp only at ht
      generalize RdS.readS (l.drop (k+1))=rd at*
      go_wp2_with fail
      refine (ht _).mono ?_;rintro e w1 ⟨rfl,A9⟩
      go_wp2_with fail
      refine (hv _).mono ?_;rintro e w2 ⟨rfl,A8⟩
      have A0:=(A2.call A9).call A8
      have A3:Below w.heap.size w w2:=hb0.trans ((Aa A9 A8).mono hb0.size)
      cases rd with
      | none=>
       obtain ⟨c0,c1,f0,f1,c3,f3,k1,k2⟩:=A0.two (.string ⟨t.toArray⟩) (.string ⟨#[]⟩)
       have HN:Hid (RdS.BV l=none):=hZ9 (by rw [HP.out];split <;> rfl)
       clear A0 A2
       go_wp2_with fail
       refine bodyPost_ret (v:=.tuple #[.agg #[.string ⟨t.toArray⟩,.string ⟨#[]⟩],.bool false]) (by simp [results,Tryz.results148,go_sem,k1,k2]) rfl ?_
       exact ⟨t,[],false,rfl,(fun h=>by cases h),fun _=>HN.out,(A3.setCell (p:=⟨w.heap.size,0,none⟩) (Nat.le_refl _) _).setCell (p:=⟨w.heap.size,1,none⟩) (Nat.le_refl _) _⟩
      | some v=>
       obtain ⟨c0,c1,f0,f1,c3,f3,k1,k2⟩:=A0.two (.string ⟨t.toArray⟩) (.string ⟨v.toArray⟩)
       clear A0 A2
       by_cases A1:sy=0
       · have HN:Hid (RdS.BV l=none):=hZ9 (by rw [HP.out,if_pos (B1.out.2 A1)])
         have e0:(sy !=0)=false:=by rw [A1];rfl
         clear A1
         go_wp2_with fail
         refine bodyPost_ret (v:=.tuple #[.agg #[.string ⟨t.toArray⟩,.string ⟨v.toArray⟩],.bool false]) (by simp [results,Tryz.results148,go_sem,k1,k2]) rfl ?_
         exact ⟨t,v,false,rfl,(fun h=>by cases h),fun _=>HN.out,(A3.setCell (p:=⟨w.heap.size,0,none⟩) (Nat.le_refl _) _).setCell (p:=⟨w.heap.size,1,none⟩) (Nat.le_refl _) _⟩
       · have HN:Hid (RdS.BV l=some (t,v)):=hZ9 (by rw [HP.out,if_neg (fun h=>A1 (B1.out.1 h))];rfl)
         have e0:(sy !=0)=true:=by simpa using A1
         clear A1
         go_wp2_with fail
         refine bodyPost_ret (v:=.tuple #[.agg #[.string ⟨t.toArray⟩,.string ⟨v.toArray⟩],.bool true]) (by simp [results,Tryz.results148,go_sem,k1,k2]) rfl ?_
         exact ⟨t,v,true,rfl,fun _=>HN.out,(fun h=>by cases h),(A3.setCell (p:=⟨w.heap.size,0,none⟩) (Nat.le_refl _) _).setCell (p:=⟨w.heap.size,1,none⟩) (Nat.le_refl _) _⟩
    · have HC:=hZ9 h61
      have B5:((c.toNat:Int) !=61)=true:=by rw [bne_iff_ne];exact fun h=>HC.out (CV rfl h)
      clear h61
      go_wp2_with fail
      go_round
      case rel=>exact ⟨k+1,by omega,by go_num,hZ9 (by
       intro d hd
       rw [A6.out] at hd
       rcases List.mem_append.1 hd with hd | hd
       · exact A4.out d hd
       · have:=List.mem_singleton.1 hd;rw [this];exact HC.out)⟩
      case measure=>simp [intOf];omega
  · have B3:k=l.length:=by omega
    subst B3
    have HN:Hid (RdS.BV l=none):=hZ9 (by
     have h:=A4.out
     rw [List.take_length] at h
     unfold RdS.BV
     rw [if_neg]
     intro hc
     exact h 61 (List.contains_iff_mem.1 hc) rfl)
    obtain ⟨c0,c1,f0,f1,c3,f3,k1,k2⟩:=A2.two (.string ⟨#[]⟩) (.string ⟨#[]⟩)
    clear A2
    go_wp2_with fail
    refine bodyPost_ret (v:=.tuple #[.agg #[.string ⟨#[]⟩,.string ⟨#[]⟩],.bool false]) (by simp [results,Tryz.results148,go_sem,k1,k2]) rfl ?_
    exact ⟨[],[],false,rfl,(fun h=>by cases h),fun _=>HN.out,(hb0.setCell (p:=⟨w.heap.size,0,none⟩) (Nat.le_refl _) _).setCell (p:=⟨w.heap.size,1,none⟩) (Nat.le_refl _) _⟩
end
section
open Go.RowKit
attribute [local go_sem ↓] Go.wp_at_zero Go.wp_at_succ
def Aee (xs:List RdS.Pr) (w:World) (i:Value) (wr:World):Prop:=∃k:Nat,k<=xs.length/\i=.int .i64 k/\RdS.Ib xs k=true/\Below w.heap.size w wr
theorem AcS {t:List UInt8} (h:t≠[]):Op.bytesLess [] t=true:=by
 cases t with
 | nil=>exact absurd rfl h
 | cons a l=>rfl
theorem Ie (v:Value) (xs:List RdS.Pr) (w:World) (h:AK w v xs) (hf:Es xs) (hE:Env w):Calls Tryz.prog 117 #[v] w (Ji xs w):=by
 obtain ⟨a,c,rfl,hc,h⟩:=h
 have HF:=hZ9 (RdS.Nv xs)
 rcases h with rfl | ⟨g,o,rfl,hg,h⟩
 · go_enter Tryz.func117,Tryz.ntmps117
   go_wp2_with fail
   go_ret
   exact ⟨rfl,Below.refl _ _⟩
 · have H:=hZ9 h
   have C8:=hZ9 hf
   generalize hn:xs.length=n at*
   have HN:=hZ9 hn
   clear h hf hn
   by_cases B9:n=0
   · subst B9
     go_enter Tryz.func117,Tryz.ntmps117
     go_wp2_with fail
     go_ret
     exact ⟨by rw [HF.out];rfl,Below.refl _ _⟩
   by_cases C6:3<n
   · have HB:Hid (decide (n<=3)=false):=hZ9 (decide_eq_false (by omega))
     have hz:decide ((n:Int)<1)=false:=decide_eq_false (by omega)
     have D9:(3:Int)<(n:Int):=by omega
     go_enter Tryz.func117,Tryz.ntmps117
     go_wp2_with fail
     go_ret
     exact ⟨by rw [HF.out,HB.out];simp,Below.refl _ _⟩
   have hz:decide ((n:Int)<1)=false:=decide_eq_false (by omega)
   have HB:Hid (decide (1<=n)=true/\decide (n<=3)=true):=hZ9 ⟨decide_eq_true (by omega),decide_eq_true (by omega)⟩
   have E4:decide ((3:Int)<(n:Int))=false:=decide_eq_false (by omega)
   have D5:n<=3:=by omega
   clear B9 C6
   go_enter Tryz.func117,Tryz.ntmps117
   go_wp2_with fail
   go_loopw [18] (fun i wr=>Aee xs w i wr) (fun i _=>n - (intOf i).toNat)
   case atStart=>exact ⟨0,Nat.zero_le _,rfl,rfl,Below.refl _ _⟩
   case round=>
    obtain ⟨k,hk,rfl,B8,hb⟩:=hrel
    rw [HN.out] at hk
    have B5:=hZ9 B8
    clear B8
    by_cases B7:k<n
    · have A1:k<xs.length:=by rw [HN.out];exact B7
      obtain ⟨c0,c1⟩:=H.out k _ (List.getElem?_eq_getElem A1)
      have A3:=hZ9 (RdS.Jf xs k A1)
      have D1:=hZ9 (fun hp n hn=>RdS.Ph A1 hp n hn)
      obtain ⟨f1,f2⟩:=C8.out _ (List.getElem_mem A1)
      have A9:Hid (∀j,k=j+1->∃p:RdS.Pr,RdS.DU xs k=p.1/\wr.cell? ⟨g,o+j*2,none⟩=some (Ac p.1)):=hZ9 (fun j hj=>by
       have C0:j<xs.length:=by omega
       exact ⟨xs[j],by rw [hj];exact RdS.KG xs j C0,(hb.cell (p:=⟨g,o+j*2,none⟩) hg).trans (H.out j _ (List.getElem?_eq_getElem C0)).1⟩)
      have D3:Hid (k=0->RdS.DU xs k=[]):=hZ9 (fun h=>by rw [h];rfl)
      generalize xs[k]=p at*
      obtain ⟨t,u⟩:=p
      simp only at c0 c1 f1 f2
      replace c0:wr.cell? ⟨g,o+k*2,none⟩=some (Ac t):=(hb.cell (p:=⟨g,o+k*2,none⟩) hg).trans c0
      replace c1:wr.cell? ⟨g,o+k*2+1,none⟩=some (Ac u):=(hb.cell (p:=⟨g,o+k*2+1,none⟩) hg).trans c1
      unfold Ac at c0 c1
      have B0:Hid (RdS.Cb (RdS.DU xs k) (t,u)=false->RdS.formedS xs=false):=hZ9 (fun hp=>by
       rw [HF.out,D1.out hp n B7,Bool.and_false])
      have A4:=fun w=>MD ⟨t.toArray⟩ f1 w
      unfold Am at A4
      have A8:=fun w hE=>Nu ⟨t.toArray⟩ ⟨u.toArray⟩ f1 f2 w hE
      unfold Ba at A8
      have du:∀l:List UInt8,(⟨l.toArray⟩:ByteArray).data.toList=l:=fun _=>rfl
      rw [du] at A4
      rw [du,du] at A8
      clear du
      have HP:Hid (RdS.Cb (RdS.DU xs k) (t,u)=(((RuS.typeOf t).1==t)&&((RuS.typeOf t).2==1||(RuS.typeOf t).2==3)&&Op.bytesLess (RdS.DU xs k) t&&((RuS.normal t u).2==0))):=hZ9 rfl
      have C9:=hZ9 (fun h=>RdS.Xh (nm:=t) h)
      generalize RdS.DU xs k=last at*
      generalize RuS.typeOf t=r at*
      generalize RuS.normal t u=nr at*
      obtain ⟨t',sy⟩:=r
      obtain ⟨x,e0⟩:=nr
      simp only at A4 A8
      have C2:=hb
      have D6:=hZ9 A8
      clear A8
      have E0:=hZ9 hg
      go_wp2_with fail
      refine (A4 _).mono ?_;rintro e w1 ⟨rfl,A7⟩
      have B3:g<wr.heap.size:=Nat.lt_of_lt_of_le hg hb.size
      have d0:w1.cell? ⟨g,o+k*2,none⟩=some (.string ⟨t.toArray⟩):=(A7.cell (p:=⟨g,o+k*2,none⟩) B3).trans c0
      have d1:w1.cell? ⟨g,o+k*2+1,none⟩=some (.string ⟨u.toArray⟩):=(A7.cell (p:=⟨g,o+k*2+1,none⟩) B3).trans c1
      have A2:Below w.heap.size w w1:=C2.trans (A7.mono C2.size)
      have C7:Env w1.drew:=(hE.below A2).drew
      have A6:=D6.out w1.drew C7
      clear c0 c1 A4
      go_wp2_with fail
      have B1:g<w1.drew.heap.size:=Nat.lt_of_lt_of_le B3 A7.size
      go_region_held3 (fun W=>W.cell? ⟨g,o+k*2,none⟩=some (.string ⟨t.toArray⟩)/\W.cell? ⟨g,o+k*2+1,none⟩=some (.string ⟨u.toArray⟩)) (first | exact ⟨d0,d1⟩ | exact ⟨(A5.cell (p:=⟨g,o+k*2,none⟩) B1).trans d0,(A5.cell (p:=⟨g,o+k*2+1,none⟩) B1).trans d1⟩)
       (first | (go_at_call 102;(with_reducible refine A6.mono ?_);rintro e w2 ⟨rfl,A5⟩))
      have A0:Below w.heap.size w w2:=(A2.drew).trans (A5.mono A2.size)
      have E2:w2.cell? ⟨g,o+k*2,none⟩=some (.string ⟨t.toArray⟩):=(A5.cell (p:=⟨g,o+k*2,none⟩) B1).trans d0
      have C4:Hid (∀j,k=j+1->∃p:RdS.Pr,last=p.1/\w2.cell? ⟨g,o+j*2,none⟩=some (Ac p.1)):=hZ9 (fun j hj=>by
       obtain ⟨p,h1,h2⟩:=A9.out j hj
       exact ⟨p,h1,(A5.cell (p:=⟨g,o+j*2,none⟩) B1).trans ((A7.cell (p:=⟨g,o+j*2,none⟩) B3).trans h2)⟩)
      clear A6 d0 d1
      cases q1:(t'==t) with
      | false=>
       have Q1:=hZ9 q1
       go_wp2_with fail
       go_ret
       exact ⟨by rw [B0.out (by rw [HP.out];simp only [Q1.out];rfl)];rfl,A0⟩
      | true=>
       have e1:=beq_iff_eq.1 q1
       subst e1
       clear q1
       by_cases q2:sy=1\/sy=3
       · have C3:=hZ9 (C9.out q2)
         have Q2:Hid ((sy==1||sy==3)=true):=hZ9 (by rcases q2 with rfl | rfl <;> rfl)
         have B2:(sy !=1)=false\/((sy !=1)=true/\(sy !=3)=false):=by rcases q2 with rfl | rfl <;> simp
         clear q2
         by_cases q4:e0=0
         · subst q4
           by_cases B4:k=0
           · have C5:=hZ9 (D3.out B4)
             have D0:decide ((0:Int)<(k:Int))=false:=decide_eq_false (by omega)
             have D2:decide (0<k)=false:=decide_eq_false (by omega)
             clear B4
             rcases B2 with g1 | ⟨g1,g3⟩
             all_goals
              go_wp2_with fail
              go_roundw
              case rel=>exact ⟨k+1,by rw [HN.out];omega,by go_num,by rw [A3.out,B5.out,HP.out,C5.out,AcS C3.out,Q2.out];simp,A0⟩
              case measure=>simp [intOf];omega
           · obtain ⟨j,hj⟩:∃j,k=j+1:=⟨k - 1,by omega⟩
             obtain ⟨p,B6,C1⟩:=C4.out j hj
             have E3:(k:Int) - 1=(j:Int):=by omega
             have D8:IntKind.i64.wrap (j:Int)=(j:Int):=by rw [IntKind.wrap_i64];omega
             have D7:(j:Int)<(n:Int):=by omega
             have D0:(0:Int)<(k:Int):=by omega
             unfold Ac at C1
             rw [<-B6] at C1
             clear B4 hj B6
             cases q5:Op.bytesLess last t' with
             | true=>
              have Q5:=hZ9 q5
              rcases B2 with g1 | ⟨g1,g3⟩
              all_goals
               go_wp2_with fail
               go_roundw
               case rel=>exact ⟨k+1,by rw [HN.out];omega,by go_num,by rw [A3.out,B5.out,HP.out,Q5.out,Q2.out];simp,A0⟩
               case measure=>simp [intOf];omega
             | false=>
              have Q5:=hZ9 q5
              rcases B2 with g1 | ⟨g1,g3⟩
              all_goals
               go_wp2_with fail
               go_ret
               exact ⟨by rw [B0.out (by rw [HP.out];simp only [Q5.out,Bool.and_false,Bool.false_and])];rfl,A0⟩
         · have E1:(e0 !=0)=true:=by simpa using q4
           have Q4:Hid ((e0==0)=false):=hZ9 (by simpa using q4)
           clear q4
           rcases B2 with g1 | ⟨g1,g3⟩
           all_goals
            go_wp2_with fail
            go_ret
            exact ⟨by rw [B0.out (by rw [HP.out];simp only [Q4.out,Bool.and_false])];rfl,A0⟩
       · have g1:(sy !=1)=true:=by simp;omega
         have g3:(sy !=3)=true:=by simp;omega
         have Q2:Hid ((sy==1||sy==3)=false):=hZ9 (by simp;omega)
         clear q2
         go_wp2_with fail
         go_ret
         exact ⟨by rw [B0.out (by rw [HP.out];simp only [Q2.out,Bool.and_false,Bool.false_and])];rfl,A0⟩
    · have D4:k=n:=by omega
      subst D4
      go_wp2_with fail
      go_ret
      exact ⟨by rw [HF.out,B5.out,HB.out.1,HB.out.2];rfl,hb⟩
end
section
open Go.RowKit
namespace RdS
theorem AaP {p:List UInt8} {a:Pr} (h:BV p=some a):a.1.length<=17/\a.2.length<=p.length:=by
 unfold BV at h
 split at h
 · split at h
   · cases h
   · obtain ⟨v,hv,rfl⟩:=Option.map_eq_some_iff.1 h
     refine ⟨?_,?_⟩
     · rcases RuS.typeM_all (RuS.lower (nameOf p)) with e | e
       · have:RuS.typeOf (nameOf p)=([],0):=e
         rw [this];simp
       · exact e.2.2.2
     · have:=readS_len hv
       rw [List.length_drop] at this
       show v.length<=_;omega
 · cases h
theorem Yt (qs:List Pr) (a:Pr):BU (qs++[a])=Ep a (BU qs):=by unfold BU;rw [List.foldl_append];rfl
theorem Xn (a:Pr):∀(os:List Pr) (n:Nat),n<=os.length->(∀j (h:j<os.length),j<n->Op.bytesLess os[j].1 a.1=true)->(∀h:n<os.length,Op.bytesLess os[n].1 a.1=false)->Ep a os=os.take n++[a]++os.drop n
 | [],n,hn,_,_=>by
  have:n=0:=by simpa using hn
  subst this;rfl
 | p :: os,0,_,_,h2=>by
  have:=h2 (by simp)
  unfold Ep
  rw [if_neg (by simpa using this)];rfl
 | p :: os,n+1,hn,h1,h2=>by
  have h0:Op.bytesLess p.1 a.1=true:=h1 0 (by simp) (by omega)
  have ih:=Xn a os n (by simpa using hn) (fun j h hj=>h1 (j+1) (by simpa using h) (by omega)) (fun h=>h2 (by simpa using h))
  unfold Ep
  rw [if_pos h0,ih];rfl
end RdS
theorem Ht {w:World} {ops:Array Oper} {rest:List Oper} {o:Oper} {a:Act} {Q:Exit->Act->World->Prop} (T sT:TypeId) (A3:Tryz.prog.underlying sT=some (.slice T)) {i0:TypeInfo} {z:Value}
  (hi:Tryz.prog.info? T=some i0) (hz:i0.zero=some z) (A1:i0.size=2) (A5:i0.bytes=32) (A2:z.cells.size=2) (A4:o.guard=none) (s x:Operand)
  (ho:o.op=.call { callee:=.builtin .append,args:=#[s,x],argTypes:=#[sT,sT] })
  (B:Nat) (v:Value) (xs:List RdS.Pr) (hs:a.eval s=v) (A0:AW T w B v xs) (ad:Addr) (m c:Nat) (hx:a.eval x=.slice (some ad) m c)
  (ys:List RdS.Pr) (hm:ys.length=m) (hc:∀(j:Nat) (u:Value),(Cc ys)[j]?=some u->w.cell? (ad.add j)=some u) (hn:xs.length+m<=1000000000) (hB:B<=w.heap.size)
  (h:∀v' w',AW T w' B v' (xs++ys)->Below B w w'->w.grownBy w' v.ownBlock->wpList Tryz.prog ops Q rest (a.put o.dst v') w'):wpList Tryz.prog ops Q (o :: rest) a w:=by
 subst hm
 refine wpList_append_own w A4 s x _ ho B T i0 z 2 32 A3 hi hz A1 A5 A2 (by decide) v xs.length (Cc xs) hs A0 ad ys.length c (Cc ys) hx (by rw [JX])
  hc (fun u hu=>?_) (by unfold maxLen;omega) (by omega) hB (fun v' w' h1 h2 _=>h v' w' ?_ ?_ h2)
 · obtain ⟨p,_,hp⟩:=List.mem_flatMap.1 hu
   simp only [List.mem_cons,List.not_mem_nil,or_false] at hp
   rcases hp with rfl | rfl <;> rfl
 · unfold AW
   rw [Js,List.length_append]
   exact h1
 · exact (Below.refl B w).grown h2 hB (fun k hk=>(World.ownsRow.lt A0 k hk).1)
theorem AW.mono {T:TypeId} {w:World} {B B':Nat} {v:Value} {xs:List RdS.Pr} (h:AW T w B v xs) (hB:B'<=B):AW T w B' v xs:=by
 refine ⟨h.1,?_⟩
 rcases h.2 with h | ⟨g,cap,cur,e,hg,rest⟩
 · exact .inl h
 · exact .inr ⟨g,cap,cur,e,Nat.le_trans hB hg,rest⟩
theorem UE:(Tryz.prog.info? 173).map (fun i=>(i.zero,i.size,i.bytes))=some (some (.agg #[.string ⟨#[]⟩,.string ⟨#[]⟩]),2,32):=by kernel_rfl
theorem Ro (os:List RdS.Pr) (j:Nat):Cc os=Cc (os.take j)++Cc (os.drop j):=by rw [<-Js,List.take_append_drop]
theorem PH {os:List RdS.Pr} {W:World} {g j:Nat} (h:∀j u,(Cc os)[j]?=some u->W.cell? ⟨g,j,none⟩=some u) {i:Nat} {u:Value} (hi:(Cc (os.take j))[i]?=some u):W.cell? ((⟨g,0,none⟩:Addr).add i)=some u:=by
 have A0:(⟨g,0,none⟩:Addr).add i=⟨g,i,none⟩:=by unfold Addr.add;split <;> simp_all
 rw [A0]
 refine h i u ?_
 rw [Ro os j,List.getElem?_append_left (List.getElem?_eq_some_iff.1 hi).1]
 exact hi
theorem PI {os:List RdS.Pr} {W:World} {g j:Nat} (hj:j<=os.length) (h:∀j u,(Cc os)[j]?=some u->W.cell? ⟨g,j,none⟩=some u) {ad:Addr} (ha:j<os.length->ad=⟨g,j*2,none⟩) {i:Nat} {u:Value} (hi:(Cc (os.drop j))[i]?=some u):W.cell? (ad.add i)=some u:=by
 have A1:=(List.getElem?_eq_some_iff.1 hi).1
 rw [JX,List.length_drop] at A1
 rw [ha (by omega)]
 have A0:(⟨g,j*2,none⟩:Addr).add i=⟨g,j*2+i,none⟩:=by unfold Addr.add;split <;> simp_all
 rw [A0]
 refine h (j*2+i) u ?_
 have hl:(Cc (os.take j)).length=j*2:=by rw [JX,List.length_take,Nat.min_eq_left hj]
 rw [Ro os j,List.getElem?_append_right (by omega),hl,Nat.add_sub_cancel_left]
 exact hi
theorem UF {os:List RdS.Pr} {k j:Nat} (h:os.length=k):(os.drop j).length=k - j:=by rw [List.length_drop,h]
theorem drop_at {g j k:Nat} (_h:j<k):(⟨g,j*2,none⟩:Addr)=⟨g,j*2,none⟩:=rfl
def UG (ps:List (List UInt8)) (w0:World) (out i:Value) (wr:World):Prop:=
 ∃(k:Nat) (qs:List RdS.Pr),k<=ps.length/\i=.int .i64 k/\AW 173 wr w0.heap.size out (RdS.BU qs)/\qs.length=k/\RdS.CG (ps.take k)=some qs/\(∀q ∈ qs,q.1.length<=17/\q.2.length<=1000000)/\Below w0.heap.size w0 wr
theorem AaQ (l:List UInt8) (hl:l.length<=100000) (w:World) (hE:Env w):Calls Tryz.prog 116 #[.string ⟨l.toArray⟩] w (Ci 173 l w):=by
 have E6:=Ou l 43 (by omega) (by decide) w
 unfold GI at E6
 have I8:=RdS.Iq (sep:=43) l
 have F3:=RdS.Ei (sep:=43) l
 obtain ⟨ps,F2⟩:∃ps,RdS.Aj 43 l=ps:=⟨_,rfl⟩
 rw [F2] at E6 I8 F3
 have E5:=hZ9 F2
 have J6:=hZ9 F3
 clear F2 F3
 go_enter Tryz.func116,Tryz.ntmps116
 go_wp2_with fail
 refine E6.mono ?_
 rintro e w0 ⟨v,rfl,hv,hb0⟩
 obtain ⟨a,c,rfl,hc,C7⟩:=hv
 generalize hn:ps.length=n at*
 have HN:=hZ9 hn
 have K5:=hE.below hb0
 by_cases K9:3<n
 · have h3:(3:Int)<(n:Int):=by omega
   have E4:Hid (RdS.AY l=([],2)):=hZ9 (by
    unfold RdS.AY
    rw [E5.out]
    cases hq:RdS.CG ps with
    | none=>rfl
    | some qs=>
     simp only
     rw [if_neg]
     unfold RdS.formedS
     rw [RdS.IK,RdS.Pv hq,HN.out,decide_eq_false (show ¬n<=3 by omega)];simp)
   clear hn
   go_wp2_with fail
   go_ret2
   exact Ci.none E4.out hb0
 have h3:decide ((3:Int)<(n:Int))=false:=decide_eq_false (by omega)
 rcases C7 with rfl | ⟨g,o,rfl,hg,hcell⟩
 · obtain ⟨p0,K6,H7⟩:=RdS.Cm 43 l
   rw [E5.out] at H7;cases H7
 have D7:=hZ9 hcell
 clear hn hcell E6
 go_wp2_with fail
 go_loopw [4,18] (fun out i wr=>UG ps w0 out i wr) (fun _ i _=>n - (intOf i).toNat)
 case atStart=>exact ⟨0,[],Nat.zero_le _,rfl,AW.empty _ _ _,rfl,rfl,by simp,Below.refl _ _⟩
 case round=>
  obtain ⟨k,qs,hk,rfl,A8,H8,hq,E8,hb⟩:=hrel
  rw [HN.out] at hk
  have hsz:=hb.size
  have A3:Below w.heap.size w wr:=hb0.trans (hb.mono hb0.size)
  by_cases I6:k<n
  · have B3:k<ps.length:=by rw [HN.out];exact I6
    have J3:wr.cell? ⟨g,o+k,none⟩=some (Ac ps[k]):=(hb.cell (p:=⟨g,o+k,none⟩) hg).trans (D7.out k _ (List.getElem?_eq_getElem B3))
    have K7:=J6.out ps[k] (List.getElem_mem B3)
    have E4:=hZ9 (PG E5.out B3)
    have D2:=hZ9 (fun (a:RdS.Pr)=>NE B3 hq (a:=a))
    have I4:=hZ9 E8
    have D4:=hZ9 (fun (a:RdS.Pr)=>RdS.AaP (p:=ps[k]) (a:=a))
    generalize ps[k]=p at*
    unfold Ac at J3
    clear hq B3 E8
    have G4:=fun w=>AaO p (by omega) w
    unfold Xm at G4
    have D3:=hZ9 A8
    clear A8
    go_wp2_with fail
    refine (G4 _).mono ?_
    rintro e w1 ⟨t,v,b,rfl,E2,G3,E3⟩
    cases b with
    | false=>
     have I7:=hZ9 (E4.out (G3 rfl))
     clear E2 G3
     go_wp2_with fail
     go_ret2
     exact Ci.none I7.out (((A3.trans (E3.mono A3.size)).alloc (Nat.le_trans A3.size E3.size) _))
    | true=>
     have H2:=hZ9 (D2.out (t,v) (E2 rfl))
     have H9:=hZ9 (D4.out (t,v) (E2 rfl))
     clear E2 G3
     have B7:=D3.out.call E3
     have E1:Below w0.heap.size w0 w1:=hb.trans (E3.mono hsz)
     have E7:=Whole.made w1 173 #[.string ⟨t.toArray⟩,.string ⟨v.toArray⟩]
     have D0:Below w1.heap.size w1 (w1.alloc (.cells #[.string ⟨t.toArray⟩,.string ⟨v.toArray⟩] 173)):=Af w1 _
     go_wp2_with fail
     generalize J0:(w1.alloc (.cells #[.string ⟨t.toArray⟩,.string ⟨v.toArray⟩] 173))=w2 at*
     clear J0
     have B0:=AW.call B7 D0
     have B5:Below w0.heap.size w0 w2:=E1.trans (D0.mono E1.size)
     have hlen:(RdS.BU qs).length=k:=by rw [RdS.IK,H8]
     have E0:w2.cell? ⟨w1.heap.size,0,none⟩=some (.string ⟨t.toArray⟩):=E7.cell 0
     have D8:w2.cell? ⟨w1.heap.size,1,none⟩=some (.string ⟨v.toArray⟩):=E7.cell 1
     have H6:w1.heap.size<w2.heap.size:=E7.lt
     have B9:=B5.size
     have D9:=hZ9 (fun n h0 h1 h2=>RdS.Xn (t,v) (RdS.BU qs) n h0 h1 h2)
     have I5:=hZ9 (RdS.Yt qs (t,v))
     have C2:Hid (∀(B:Nat) (v' i:Value) (w':World),AW 173 w' B v' (RdS.Ep (t,v) (RdS.BU qs))->w0.heap.size<=B->i=.int .i64 ((k+1:Nat):Int)->Below w0.heap.size w0 w'->UG ps w0 v' i w'):=hZ9 (fun B v' i w' h1 h2 hi h3=>by
      refine ⟨k+1,qs++[(t,v)],by rw [HN.out];omega,hi,?_,by simp [H8],H2.out,?_,h3⟩
      · rw [I5.out];exact AW.mono h1 h2
      · intro q hq
        rcases List.mem_append.1 hq with hq | hq
        · exact I4.out q hq
        · have:=List.mem_singleton.1 hq;subst this
          have h:=H9.out
          exact ⟨h.1,Nat.le_trans h.2 (by omega)⟩)
     clear B7 E7 H2 D2 E4 D4 H9 I5 I4 D3 G4
     generalize RdS.BU qs=os at*
     obtain ⟨i0,hi,C4,B8,C1⟩:=info_parts UE
     have HI:=hZ9 hi
     clear hi
     have A7:=B0
     rcases A7.2 with ⟨rfl,I3⟩ | ⟨g2,cap,cur,rfl,L0,H3,G8,_⟩
     · have K0:os=[]:=List.eq_nil_of_length_eq_zero I3
       subst K0
       have J5:=hZ9 (D9.out 0 (Nat.le_refl _) (fun j h _=>by simp at h) (fun h=>by simp at h))
       clear B0 A7 I3
       refine wp_loop_rounds 1 ?_
       rw [rounds_succ]
       go_wp2_with fail
       go_quiet (fail)
       generalize H4:w2.drewN nq=w3 at*
       have A2:Below w2.heap.size w2 w3:=by rw [<-H4];exact below_drewN w2 nq
       have G6:w3.cell? ⟨w1.heap.size,0,none⟩=some (.string ⟨t.toArray⟩):=Ab E0 A2
       have G7:w3.cell? ⟨w1.heap.size,1,none⟩=some (.string ⟨v.toArray⟩):=Ab D8 A2
       have A5:Below w0.heap.size w0 w3:=B5.trans (A2.mono B9)
       have A1:=A5.size
       clear H4 E0 D8 A2
       go_wp2_with (at_builtin;first | refine wpList_append_own_none (by rfl) _ _ 124 (by rfl) w3.heap.size 173 i0 2 Tryz.underlying124 HI.out _ 0 [] (by rfl) (World.ownsRow_nil _ _ _ 2) (by rfl) ?_ | refine Ix 173 124 Tryz.underlying124 HI.out C4 B8 C1 (by rfl) (by rfl) _ _ (by rfl) w3.heap.size _ [] (by rfl) (AW.empty _ _ _) w3.heap.size (by rfl) (t,v) ?e1 ?e2 ?e3 ?e4 ?_)
       case e1=>simp [go_sem,Ac]
       case e2=>simp [go_sem,Ac]
       case e3=>simp
       case e4=>simp
       intro v' w4 A0 A9
       go_wp2_with (at_builtin;refine wpList_append_own_none (by rfl) _ _ 124 (by rfl) w3.heap.size 173 i0 2 Tryz.underlying124 HI.out _ 1 _ (by rfl) A0 (by rfl) ?_)
       go_wp2_with fail
       go_roundw
       case rel=>exact C2.out w3.heap.size _ _ _ (by rw [J5.out];exact A0) A1 (by go_num) ((A5.alloc A1 _).trans (A9.mono A1))
       case measure=>simp [intOf];omega
     · have I1:g2<w2.heap.size:=(Array.getElem?_eq_some_iff.1 H3).1
       have B4:∀j u,(Cc os)[j]?=some u->w2.cell? ⟨g2,j,none⟩=some u:=fun j u hj=>by
        have:=World.ownsRow.cells A7 (g:=g2) rfl j u hj
        have F1:(⟨g2,0,none⟩:Addr).add j=⟨g2,j,none⟩:=by unfold Addr.add;split <;> simp_all
        rwa [F1] at this
       have HC:=hZ9 B4
       rw [hlen] at G8
       clear B0 A7 H3 B4
       simp only [hlen]
       go_loopg [9] k (fun g1 vn J4=>∃(j q:Nat),vn=.int .i64 j/\j<=k/\k - j<=g1/\Hid (∀i (h:i<os.length),i<j->Op.bytesLess os[i].1 t=true)/\J4=w2.drewN q)
       case atStart=>exact ⟨0,0,rfl,Nat.zero_le _,by omega,hZ9 (fun i h hi=>by omega),rfl⟩
       case round=>
        obtain ⟨j,q,rfl,K2,L1,HL,rfl⟩:=hrel
        have I2:Below w2.heap.size w2 (w2.drewN q):=below_drewN w2 q
        have K8:Hid (∀j u,(Cc os)[j]?=some u->(w2.drewN q).cell? ⟨g2,j,none⟩=some u):=hZ9 (fun j u hj=>HC.out j u hj)
        have G6:(w2.drewN q).cell? ⟨w1.heap.size,0,none⟩=some (.string ⟨t.toArray⟩):=E0
        have G7:(w2.drewN q).cell? ⟨w1.heap.size,1,none⟩=some (.string ⟨v.toArray⟩):=D8
        have B6:Hid ((∀h:j<os.length,Op.bytesLess os[j].1 t=false)->RdS.Ep (t,v) os=os.take j++[(t,v)]++os.drop j):=hZ9 (fun h=>D9.out j (by rw [hlen];exact K2) HL.out h)
        by_cases F0:j<k
        · have J8:j<os.length:=by rw [hlen];exact F0
          have G9:=HC.out (j*2) (Ac os[j].1) (Ir os j os[j] (List.getElem?_eq_getElem J8)).1
          have I9:(j:Int)<(k:Int):=by omega
          unfold Ac at G9
          cases D5:Op.bytesLess os[j].1 t with
          | true=>
           have F7:=hZ9 D5
           generalize H5:os[j].1=pj at*
           have J7:=hZ9 H5
           clear H5
           go_wp2_with fail
           go_quiet (fail)
           go_wp2_with fail
           go_roundg (k - (j+1))
           case measure=>omega
           case rel=>exact ⟨j+1,q+nq,by go_num,by omega,Nat.le_refl _,hZ9 (fun i h hi=>by
            rcases Nat.lt_or_ge i j with h1 | h1
            · exact HL.out i h h1
            · have:i=j:=by omega
              subst this;rw [J7.out];exact F7.out),rfl⟩
          | false=>
           have G2:Hid (∀h:j<os.length,Op.bytesLess os[j].1 t=false):=hZ9 (fun _=>D5)
           generalize os[j].1=pj at*
           go_wp2_with fail
           go_quiet (fail)
           have A2:Below w2.heap.size w2 ((w2.drewN q).drewN nq):=Aa I2 (below_drewN _ nq)
           have D6:Hid (∀j u,(Cc os)[j]?=some u->((w2.drewN q).drewN nq).cell? ⟨g2,j,none⟩=some u):=hZ9 (fun j u hj=>HC.out j u hj)
           have G1:((w2.drewN q).drewN nq).cell? ⟨w1.heap.size,0,none⟩=some (.string ⟨t.toArray⟩):=E0
           have hx1:((w2.drewN q).drewN nq).cell? ⟨w1.heap.size,1,none⟩=some (.string ⟨v.toArray⟩):=D8
           generalize (w2.drewN q).drewN nq=w3 at*
           have J9:w1.heap.size<w3.heap.size:=Nat.lt_of_lt_of_le H6 A2.size
           have F9:g2<w3.heap.size:=Nat.lt_of_lt_of_le I1 A2.size
           have A5:Below w0.heap.size w0 w3:=B5.trans (A2.mono B9)
           have A1:=A5.size
           have B1:=hZ9 (B6.out G2.out)
           go_wp2_with (at_builtin;refine Ht 173 124 Tryz.underlying124 HI.out C4 B8 C1 (by rfl) (by rfl) _ _ (by rfl) w3.heap.size _ [] (by rfl) (AW.empty _ _ _) ⟨g2,0,none⟩ j _ (by rfl) (os.take j) (by rw [List.length_take];omega) (fun i u hi=>PH D6.out hi) (by simp;omega) (Nat.le_refl _) ?_)
           intro v4 w4 A0 A9 H0
           obtain ⟨a4,c4,rfl⟩:=A0.form
           have K4:w4.cell? ⟨w1.heap.size,0,none⟩=some (.string ⟨t.toArray⟩):=Ab G1 A9
           have J1:w4.cell? ⟨w1.heap.size,1,none⟩=some (.string ⟨v.toArray⟩):=Ab hx1 A9
           have C3:=A9.size
           go_wp2_with (at_builtin;refine Ix 173 124 Tryz.underlying124 HI.out C4 B8 C1 (by rfl) (by rfl) _ _ (by rfl) w3.heap.size _ (os.take j) (by rfl) (A0.alloc _) w4.heap.size (by rfl) (t,v) (by simp [go_sem,Ac]) (by simp [go_sem,Ac]) (by rw [List.length_take];omega) (by simp;omega) ?_)
           intro v5 w5 A4 E9
           obtain ⟨a5,c5,rfl⟩:=A4.form
           have A6:Below w3.heap.size w3 w5:=(A9.alloc C3 _).trans E9
           have F8:=A6.size
           have F6:Hid (∀j u,(Cc os)[j]?=some u->w5.cell? ⟨g2,j,none⟩=some u):=hZ9 (fun j u hj=>(A6.cell (p:=⟨g2,j,none⟩) F9).trans (D6.out j u hj))
           have C0:j<=os.length:=by omega
           have C6:(os.take j).length+1<=1000:=by rw [List.length_take];omega
           go_wp2_with (at_builtin;refine Ht 173 124 Tryz.underlying124 HI.out C4 B8 C1 (by rfl) (by rfl) _ _ (by rfl) w3.heap.size _ (os.take j++[(t,v)]) (by rfl) A4 _ _ _ (by rfl) (os.drop j) (UF hlen) (fun i u hi=>PI C0 F6.out (fun h=>drop_at (hlen ▸ h)) hi) ?d3 ?d4 ?_)
           case d3=>rw [List.length_append,List.length_singleton];omega
           case d4=>omega
           intro v6 w6 B2 F4 G0
           go_wp2_with fail
           go_roundw
           case rel=>exact C2.out w3.heap.size _ _ _ (by rw [B1.out,List.append_assoc];exact B2) A1 (by go_num) (A5.trans ((A6.trans F4).mono A1))
           case measure=>simp [intOf];omega
        · have I9:¬(j:Int)<(k:Int):=by omega
          have G2:Hid (∀h:j<os.length,Op.bytesLess os[j].1 t=false):=hZ9 (fun h=>by rw [hlen] at h;omega)
          rcases Nat.lt_or_ge j cap with G9 | G9
          all_goals
           go_wp2_with fail
           go_quiet (fail)
           have A2:Below w2.heap.size w2 ((w2.drewN q).drewN nq):=Aa I2 (below_drewN _ nq)
           have D6:Hid (∀j u,(Cc os)[j]?=some u->((w2.drewN q).drewN nq).cell? ⟨g2,j,none⟩=some u):=hZ9 (fun j u hj=>HC.out j u hj)
           have G1:((w2.drewN q).drewN nq).cell? ⟨w1.heap.size,0,none⟩=some (.string ⟨t.toArray⟩):=E0
           have hx1:((w2.drewN q).drewN nq).cell? ⟨w1.heap.size,1,none⟩=some (.string ⟨v.toArray⟩):=D8
           generalize (w2.drewN q).drewN nq=w3 at*
           have J9:w1.heap.size<w3.heap.size:=Nat.lt_of_lt_of_le H6 A2.size
           have F9:g2<w3.heap.size:=Nat.lt_of_lt_of_le I1 A2.size
           have A5:Below w0.heap.size w0 w3:=B5.trans (A2.mono B9)
           have A1:=A5.size
           have B1:=hZ9 (B6.out G2.out)
           go_wp2_with (at_builtin;refine Ht 173 124 Tryz.underlying124 HI.out C4 B8 C1 (by rfl) (by rfl) _ _ (by rfl) w3.heap.size _ [] (by rfl) (AW.empty _ _ _) ⟨g2,0,none⟩ j _ (by rfl) (os.take j) (by rw [List.length_take];omega) (fun i u hi=>PH D6.out hi) (by simp;omega) (Nat.le_refl _) ?_)
           intro v4 w4 A0 A9 H0
           obtain ⟨a4,c4,rfl⟩:=A0.form
           have K4:w4.cell? ⟨w1.heap.size,0,none⟩=some (.string ⟨t.toArray⟩):=Ab G1 A9
           have J1:w4.cell? ⟨w1.heap.size,1,none⟩=some (.string ⟨v.toArray⟩):=Ab hx1 A9
           have C3:=A9.size
           go_wp2_with (at_builtin;refine Ix 173 124 Tryz.underlying124 HI.out C4 B8 C1 (by rfl) (by rfl) _ _ (by rfl) w3.heap.size _ (os.take j) (by rfl) (A0.alloc _) w4.heap.size (by rfl) (t,v) (by simp [go_sem,Ac]) (by simp [go_sem,Ac]) (by rw [List.length_take];omega) (by simp;omega) ?_)
           intro v5 w5 A4 E9
           obtain ⟨a5,c5,rfl⟩:=A4.form
           have A6:Below w3.heap.size w3 w5:=(A9.alloc C3 _).trans E9
           have F8:=A6.size
           have F6:Hid (∀j u,(Cc os)[j]?=some u->w5.cell? ⟨g2,j,none⟩=some u):=hZ9 (fun j u hj=>(A6.cell (p:=⟨g2,j,none⟩) F9).trans (D6.out j u hj))
           have C0:j<=os.length:=by omega
           have H1:¬j<os.length:=by omega
           have C6:(os.take j).length+1<=1000:=by rw [List.length_take];omega
           go_wp2_with (at_builtin;refine Ht 173 124 Tryz.underlying124 HI.out C4 B8 C1 (by rfl) (by rfl) _ _ (by rfl) w3.heap.size _ (os.take j++[(t,v)]) (by rfl) A4 _ _ _ (by rfl) (os.drop j) (UF hlen) (fun i u hi=>PI C0 F6.out (fun h=>absurd h H1) hi) ?d3 ?d4 ?_)
           case d3=>rw [List.length_append,List.length_singleton];omega
           case d4=>omega
           intro v6 w6 B2 F4 G0
           go_wp2_with fail
           go_roundw
           case rel=>exact C2.out w3.heap.size _ _ _ (by rw [B1.out,List.append_assoc];exact B2) A1 (by go_num) (A5.trans ((A6.trans F4).mono A1))
           case measure=>simp [intOf];omega
  · have K3:k=n:=by omega
    subst K3
    have C9:ps.take k=ps:=List.take_of_length_le (by rw [HN.out];omega)
    rw [C9] at hq
    have I0:Hid (RdS.AY l=if RdS.formedS (RdS.BU qs) then (RdS.BU qs,0) else ([],2)):=hZ9 (by unfold RdS.AY;rw [E5.out,hq])
    have F5:=A8.avas
    have D1:Es (RdS.BU qs):=fun q hq=>by
     have:=E8 q ((RdS.KJ qs).mem_iff.1 hq)
     omega
    have C8:=Ie _ _ wr F5 D1 (hE.below A3)
    unfold Ji at C8
    obtain ⟨a,cp,rfl⟩:=A8.form
    have K1:=hZ9 (fun m=>Tag.own A8 m)
    have J2:=hZ9 F5
    clear C9 hq A8 E8 D1 F5
    cases C5:RdS.formedS (RdS.BU qs) with
    | true=>
     have G5:=hZ9 C5
     rw [C5] at C8
     clear C5
     go_wp2_with fail
     refine C8.mono ?_;rintro e w2 ⟨rfl,A2⟩
     go_wp2_with fail
     go_ret2
     have e1:RdS.AY l=(RdS.BU qs,0):=by rw [I0.out,if_pos G5.out]
     exact ⟨_,by rw [e1];rfl,by rw [e1];exact J2.out.call A2 (Nat.le_refl _),A3.trans (A2.mono A3.size),(K1.out _).call A2⟩
    | false=>
     have G5:=hZ9 C5
     rw [C5] at C8
     clear C5
     go_wp2_with fail
     refine C8.mono ?_;rintro e w2 ⟨rfl,A2⟩
     go_wp2_with fail
     go_ret2
     exact Ci.none (by rw [I0.out,if_neg (by rw [G5.out];decide)]) (A3.trans (A2.mono A3.size))
end
end Go.Proofs.YtgngjfjaelgaeaaGreatDoor
