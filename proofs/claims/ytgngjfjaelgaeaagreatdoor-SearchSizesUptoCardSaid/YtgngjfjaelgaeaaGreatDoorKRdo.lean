/- The walk of the document's 'read': a value, read. Conditions: as stated. -/
import Derived.Test.YtgngjfjaelgaeaaGreatDoorKRdh
set_option maxRecDepth 100000
set_option maxHeartbeats 8000000
namespace Go.Proofs.YtgngjfjaelgaeaaGreatDoor
section
open Go.RowKit
attribute [local go_sem ↓] Go.wp_at_zero Go.wp_at_succ
def UH (l:List UInt8) (w:World) (out i:Value) (wr:World):Prop:=
 ∃(k:Nat) (acc:List UInt8),k<=l.length/\i=.int .i64 k/\OwnB wr w.heap.size out acc/\acc.length<=k/\RdS.readS l=(RdS.Az (decide (k=0)) (l.drop k)).map (acc++·)/\Below w.heap.size w wr
theorem AaR {w:World} {ops:Array Oper} {o:Oper} {a:Act} {K:Act->World->Prop} {Q:Exit->Act->World->Prop} {E:Prop} (A4:o.guard=none) (s x:Operand)
  (ho:o.op=.call { callee:=.builtin .append,args:=#[s,x],argTypes:=#[157,157] })
  (B:Nat) (v:Value) (l:List UInt8) (hs:a.eval s=v) (A0:OwnB w B v l) (g c:Nat) (hx:a.eval x=.slice (some ⟨g,0,none⟩) 1 c)
  (y:UInt8) (hc:w.cell? ⟨g,0,none⟩=some (Ag y)) (hn:l.length<=1000000000) (hB:B<=w.heap.size)
  (hK:∀v' w',OwnB w' B v' (l++[y])->Below B w w'->K (a.put o.dst v') w'):if Region.wanted o (yielded ops a.tmps)=true then Oper.wp Tryz.prog o a w K Q else E:=by
 have hw:Region.wanted o (yielded ops a.tmps)=true:=by simp [Region.wanted,A4]
 rw [if_pos hw]
 obtain ⟨i0,hi,A5,A3,A6⟩:=info_parts OU
 refine wp_append_own w s x _ ho B 5 i0 (.int .u8 0) 1 1 Tryz.underlying157 hi A5 A3 A6 rfl (by decide) v l.length (l.map Ag) hs A0 ⟨g,0,none⟩ 1 c [Ag y] hx rfl
  (fun j u hj=>?_) (fun u hu=>?_) (by unfold maxLen;omega) (by omega) hB (fun v' w' h1 h2 _=>hK v' w' ?_ ?_)
 · have A2:j=0:=by
    rcases Nat.eq_zero_or_pos j with h | h
    · exact h
    · rw [List.getElem?_eq_none (by simp;omega)] at hj;cases hj
   subst A2
   have A1:(⟨g,0,none⟩:Addr).add 0=⟨g,0,none⟩:=by unfold Addr.add;split <;> simp_all
   rw [A1,hc]
   simpa using hj
 · rw [List.mem_singleton] at hu;subst hu;rfl
 · unfold OwnB
   rw [List.map_append,List.length_append]
   exact h1
 · exact (Below.refl B w).grown h2 hB (fun k hk=>(World.ownsRow.lt A0 k hk).1)
theorem AaS (l:List UInt8) (hl:l.length<=1000000) (w:World):Calls Tryz.prog 177 #[.string ⟨l.toArray⟩] w (BH l w):=by
 go_enter Tryz.func177,Tryz.ntmps177
 go_wp2_with fail
 go_loopw [4,5] (fun out i wr=>UH l w out i wr) (fun _ i _=>l.length - (intOf i).toNat)
 case atStart=>exact ⟨0,[],Nat.zero_le _,rfl,OwnB.empty _ _,Nat.zero_le _,by simp [RdS.readS],Below.refl _ _⟩
 case round=>
  obtain ⟨k,acc,hk,rfl,A4,D9,D3,hb⟩:=hrel
  have HK:=hZ9 hk
  have C1:=hZ9 D3
  have hsz:=hb.size
  clear D3 hk
  by_cases D8:k<l.length
  · have HD:=hZ9 (List.drop_eq_getElem_cons D8)
    generalize C8:l[k]=c at*
    have F1:∀h,(⟨l.toArray⟩:ByteArray)[k]'h=c:=fun _=>C8
    clear C8
    have A1:Hid (RdS.Az (decide (k=0)) (l.drop k)=none->RdS.readS l=none):=hZ9 (fun h=>by rw [C1.out,h];rfl)
    have B1:Hid (∀(k2:Nat) (x:UInt8) (out i:Value) (w2:World),k2<=l.length->k<k2->i=.int .i64 k2->RdS.Az (decide (k=0)) (l.drop k)=(RdS.Az false (l.drop k2)).map (x :: ·)->OwnB w2 w.heap.size out (acc++[x])->Below w.heap.size w w2->UH l w out i w2):=
     hZ9 (fun k2 x out i w2 h1 h2 hi h3 h4 h5=>⟨k2,acc++[x],h1,hi,h4,by simp;omega,by rw [C1.out,h3,Option.map_map,decide_eq_false (show ¬k2=0 by omega)];congr 1;funext y;simp,h5⟩)
    have F0:((k:Int)==0)=decide (k=0):=by rw [Bool.eq_iff_iff,beq_iff_eq,decide_eq_true_eq];omega
    by_cases h92:c=92
    · have A6:=hZ9 h92
      have D7:((c.toNat:Int) !=92)=false:=by rw [h92];rfl
      clear h92
      by_cases E5:k+1<l.length
      · have B7:=hZ9 (List.drop_eq_getElem_cons E5)
        generalize C7:l[k+1]=d at*
        have G1:∀h,(⟨l.toArray⟩:ByteArray)[k+1]'h=d:=fun _=>C7
        clear C7
        have C0:(k:Int)+1<(l.length:Int):=by omega
        have A3:=fun w=>LG d w
        have C6:Hid (RdS.DD d=(RdS.Ar d||d==35||d==61||d==32)):=hZ9 rfl
        have HE:Hid (RdS.DD d=true->RdS.Az (decide (k=0)) (l.drop k)=(RdS.Az false (l.drop (k+2))).map (d :: ·)):=hZ9 (fun h=>by rw [HD.out,A6.out,B7.out,RdS.Ee _ h])
        generalize C2:RdS.Ar d=sv at*
        by_cases A5:sv=true\/d=35\/d=61\/d=32
        · have E0:Hid (RdS.DD d=true):=hZ9 (by rw [C6.out];rcases A5 with rfl | rfl | rfl | rfl <;> simp)
          have D5:=hZ9 (HE.out E0.out)
          have B4:sv=true\/(sv=false/\((d.toNat:Int)==35)=true)\/(sv=false/\((d.toNat:Int)==35)=false/\((d.toNat:Int)==61)=true)\/(sv=false/\((d.toNat:Int)==35)=false/\((d.toNat:Int)==61)=false/\((d.toNat:Int)==32)=true):=by
           rcases A5 with rfl | rfl | rfl | rfl
           · exact .inl rfl
           · cases sv <;> simp
           · cases sv <;> simp
           · cases sv <;> simp
          have F8:=hZ9 C2
          clear A5 C2
          rcases B4 with rfl | ⟨rfl,g1⟩ | ⟨rfl,g1,g2⟩ | ⟨rfl,g1,g2,g3⟩
          all_goals
           go_wp2_with fail
           refine (A3 _).mono ?_;rintro e w1 ⟨rfl,rfl⟩
           go_wp2_with (at_builtin;refine DN (by rfl) _ _ (by rfl) w.heap.size _ acc (by rfl) (A4.alloc _) wr.heap.size 1 1 (by rfl) [d] (by rfl) ?c1 ?c2 ?c3 ?_)
           case c1=>first | exact one_cell (by simp [go_sem,Ag]) | exact EN _
           case c2=>omega
           case c3=>simp;omega
           intro v' w2 A0 B2
           go_wp2_with fail
           go_roundw
           case rel=>exact B1.out (k+2) d _ _ _ (by omega) (by omega) (by go_num) D5.out A0 ((hb.alloc hsz _).trans B2)
           case measure=>simp [intOf];omega
        · have E6:sv=false:=by cases sv with | true=>exact absurd (.inl rfl) A5 | false=>rfl
          subst E6
          have B9:Hid (RdS.DD d=false):=hZ9 (by
           rw [C6.out]
           have n1:(d==35)=false:=by simpa using fun h=>A5 (.inr (.inl h))
           have n2:(d==61)=false:=by simpa using fun h=>A5 (.inr (.inr (.inl h)))
           have n3:(d==32)=false:=by simpa using fun h=>A5 (.inr (.inr (.inr h)))
           rw [n1,n2,n3];rfl)
          have g1:((d.toNat:Int)==35)=false:=beq_eq_false_iff_ne.2 (fun h=>A5 (.inr (.inl (CV rfl h))))
          have g2:((d.toNat:Int)==61)=false:=beq_eq_false_iff_ne.2 (fun h=>A5 (.inr (.inr (.inl (CV rfl h)))))
          have g3:((d.toNat:Int)==32)=false:=beq_eq_false_iff_ne.2 (fun h=>A5 (.inr (.inr (.inr (CV rfl h)))))
          clear A5 C2 HE
          by_cases E8:k+2<l.length
          · have C5:=hZ9 (List.drop_eq_getElem_cons E8)
            generalize D2:l[k+2]=f at*
            have E9:∀h,(⟨l.toArray⟩:ByteArray)[k+2]'h=f:=fun _=>D2
            clear D2
            have B5:decide ((l.length:Int)<=(k:Int)+2)=false:=decide_eq_false (by omega)
            have E2:(k:Int)+2<(l.length:Int):=by omega
            have A9:=fun w=>XU d w
            have B3:=fun w=>XU f w
            rcases RdS.Il d with ⟨hn,hv⟩ | ⟨x,hx,C4,E4⟩
            · rw [hv] at A9
              have HN:Hid (RdS.readS l=none):=hZ9 (A1.out (by rw [HD.out,A6.out,B7.out,show k+1+1=k+2 from rfl,C5.out,RdS.CP _ B9.out (.inl hn)]))
              clear hn hv B3
              go_wp2_with fail
              refine (A3 _).mono ?_;rintro e w0 ⟨rfl,rfl⟩
              go_wp2_with fail
              refine (A9 _).mono ?_;rintro e w1 ⟨rfl,rfl⟩
              go_wp2_with fail
              go_ret2
              exact BH.none HN.out hb
            · rcases RdS.Il f with ⟨hn,hv⟩ | ⟨y,hy,E7,E1⟩
              · rw [C4] at A9
                rw [hv] at B3
                have HN:Hid (RdS.readS l=none):=hZ9 (A1.out (by rw [HD.out,A6.out,B7.out,show k+1+1=k+2 from rfl,C5.out,RdS.CP _ B9.out (.inr hn)]))
                have E3:decide ((x:Int)<0)=false:=decide_eq_false (by omega)
                clear hn hv hx C4
                go_wp2_with fail
                refine (A3 _).mono ?_;rintro e w0 ⟨rfl,rfl⟩
                go_wp2_with fail
                refine (A9 _).mono ?_;rintro e w1 ⟨rfl,rfl⟩
                go_wp2_with fail
                refine (B3 _).mono ?_;rintro e w2 ⟨rfl,rfl⟩
                go_wp2_with fail
                go_ret2
                exact BH.none HN.out hb
              · have HE:Hid (RdS.Az (decide (k=0)) (l.drop k)=(RdS.Az false (l.drop (k+3))).map (UInt8.ofNat (16*x+y) :: ·)):=hZ9 (by
                 rw [HD.out,A6.out,B7.out,show k+1+1=k+2 from rfl,C5.out,RdS.Eo _ B9.out hx hy])
                obtain ⟨z,hz⟩:∃z:UInt8,z=UInt8.ofNat (16*x+y):=⟨_,rfl⟩
                have D1:(z.toNat:Int)=16*(x:Int)+(y:Int):=by rw [hz,UInt8.toNat_ofNat'];omega
                rw [<-hz] at HE
                have D0:=z.toNat_lt
                have D4:(16:Int)*(x:Int)+(y:Int)=(z.toNat:Int):=D1.symm
                have F2:IntKind.u8.wrap (z.toNat:Int)=(z.toNat:Int):=by rw [IntKind.wrap_u8];omega
                have F3:IntKind.i64.wrap (z.toNat:Int)=(z.toNat:Int):=by rw [IntKind.wrap_i64];omega
                have F6:IntKind.i64.wrap (16*(x:Int))=16*(x:Int):=by rw [IntKind.wrap_i64];omega
                have E3:decide ((x:Int)<0)=false:=decide_eq_false (by omega)
                have G0:decide ((y:Int)<0)=false:=decide_eq_false (by omega)
                have j1:(0:Int)<=(k:Int)+1:=by omega
                have j2:(0:Int)<=(k:Int)+2:=by omega
                have t1:((k:Int)+1).toNat=k+1:=by omega
                have t2:((k:Int)+2).toNat=k+2:=by omega
                have F7:IntKind.i64.wrap ((k:Int)+1)=(k:Int)+1:=by rw [IntKind.wrap_i64];omega
                have F9:IntKind.i64.wrap ((k:Int)+2)=(k:Int)+2:=by rw [IntKind.wrap_i64];omega
                clear hx hy hz D1
                rw [C4] at A9
                rw [E7] at B3
                go_wp2_with fail
                refine (A3 _).mono ?_;rintro e w0 ⟨rfl,rfl⟩
                go_wp2_with fail
                refine (A9 _).mono ?_;rintro e w1 ⟨rfl,rfl⟩
                go_wp2_with fail
                refine (B3 _).mono ?_;rintro e w2 ⟨rfl,rfl⟩
                go_wp2_with fail
                have B6:=A4
                clear A9 B3 A3 A4
                go_region_law (first
                 | (refine AaR (by rfl) _ _ (by rfl) w.heap.size _ acc (by rfl) (World.ownsRow.alloc B6 _) wr.heap.size 1 (by rfl) z (by simp [go_sem,Ag]) (by omega) (by simp;omega) ?_;intro v' w2 A0 B2)
                 | (go_simp;go_at_call 199;refine (XU _ _).mono ?_;rintro e w1 ⟨rfl,rfl⟩))
                all_goals go_wp2_with fail
                all_goals go_roundw
                all_goals first | (simp [intOf];omega) | exact B1.out (k+3) z _ _ _ (by omega) (by omega) (by go_num) HE.out A0 ((hb.drew.alloc hsz _).trans B2)
          · have B5:(l.length:Int)<=(k:Int)+2:=by omega
            have A2:l.drop (k+1+1)=[]:=List.drop_of_length_le (by omega)
            have HN:Hid (RdS.readS l=none):=hZ9 (A1.out (by rw [HD.out,A6.out,B7.out,A2,RdS.ER _ B9.out]))
            clear A2
            go_wp2_with fail
            refine (A3 _).mono ?_;rintro e w0 ⟨rfl,rfl⟩
            go_wp2_with fail
            go_ret2
            exact BH.none HN.out hb
      · have C0:decide ((k:Int)+1<(l.length:Int))=false:=decide_eq_false (by omega)
        have B5:(l.length:Int)<=(k:Int)+2:=by omega
        have A2:l.drop (k+1)=[]:=List.drop_of_length_le (by omega)
        have HN:Hid (RdS.readS l=none):=hZ9 (A1.out (by rw [HD.out,A6.out,A2,RdS.Hr]))
        clear A2
        go_wp2_with fail
        go_ret2
        exact BH.none HN.out hb
    · have A6:=hZ9 h92
      have D7:((c.toNat:Int) !=92)=true:=by rw [bne_iff_ne];exact fun h=>A6.out (CV rfl h)
      clear h92
      have C3:(l.drop (k+1)).isEmpty=decide (k+1=l.length):=by rw [Bool.eq_iff_iff,List.isEmpty_iff,List.drop_eq_nil_iff,decide_eq_true_eq];omega
      have B0:Hid (RdS.CY (decide (k=0)) (decide (k+1=l.length)) c=true->RdS.readS l=none):=hZ9 (fun h=>A1.out (by rw [HD.out];exact RdS.Jh A6.out (by rw [C3];exact h)))
      have D6:Hid (RdS.CY (decide (k=0)) (decide (k+1=l.length)) c=false->RdS.Az (decide (k=0)) (l.drop k)=(RdS.Az false (l.drop (k+1))).map (c :: ·)):=hZ9 (fun h=>by rw [HD.out];exact RdS.Hj A6.out (by rw [C3];exact h))
      have el:((k:Int)==(l.length:Int) - 1)=decide (k+1=l.length):=by rw [Bool.eq_iff_iff,beq_iff_eq,decide_eq_true_eq];omega
      have B8:Hid (∀f last,RdS.CY f last c=(RdS.Ar c||c==0||(c==32&&(f||last))||(c==35&&f))):=hZ9 (fun _ _=>rfl)
      have e0:((c.toNat:Int)==0)=(c==0):=by rw [Bool.eq_iff_iff,beq_iff_eq,beq_iff_eq];exact ⟨fun h=>CV rfl h,fun h=>by rw [h];rfl⟩
      have F4:((c.toNat:Int)==32)=(c==32):=by rw [Bool.eq_iff_iff,beq_iff_eq,beq_iff_eq];exact ⟨fun h=>CV rfl h,fun h=>by rw [h];rfl⟩
      have F5:((c.toNat:Int)==35)=(c==35):=by rw [Bool.eq_iff_iff,beq_iff_eq,beq_iff_eq];exact ⟨fun h=>CV rfl h,fun h=>by rw [h];rfl⟩
      have A7:=fun w=>LG c w
      have A8:=hZ9 (fun out w2=>B1.out (k+1) c out _ w2 (by omega) (by omega) rfl)
      clear C3
      generalize decide (k+1=l.length)=ql at*
      generalize decide (k=0)=qf at*
      generalize RdS.Ar c=sv at*
      generalize (c==0)=z0 at*
      generalize (c==32)=z32 at*
      generalize (c==35)=z35 at*
      cases sv
      case true=>
       have HN:=hZ9 (B0.out (by rw [B8.out];rfl))
       go_wp2_with fail
       refine (A7 _).mono ?_;rintro e w1 ⟨rfl,rfl⟩
       go_wp2_with fail
       go_ret2
       exact BH.none HN.out hb
      cases z0
      case true=>
       have HN:=hZ9 (B0.out (by rw [B8.out];rfl))
       go_wp2_with fail
       refine (A7 _).mono ?_;rintro e w1 ⟨rfl,rfl⟩
       go_wp2_with fail
       go_ret2
       exact BH.none HN.out hb
      cases z32 <;> cases z35 <;> cases qf <;> cases ql
      all_goals first
       | (have HN:=hZ9 (B0.out (by rw [B8.out];rfl))
          go_wp2_with fail
          refine (A7 _).mono ?_;rintro e w1 ⟨rfl,rfl⟩
          go_wp2_with fail
          go_ret2
          exact BH.none HN.out hb)
       | (have HE:=hZ9 (D6.out (by rw [B8.out];rfl))
          go_wp2_with fail
          refine (A7 _).mono ?_;rintro e w1 ⟨rfl,rfl⟩
          go_wp2_with (at_builtin;refine DN (by rfl) _ _ (by rfl) w.heap.size _ acc (by rfl) (A4.alloc _) wr.heap.size 1 1 (by rfl) [c] (by rfl) (by first | exact one_cell (by simp [go_sem,Ag]) | exact EN _) (by omega) (by simp;omega) ?_)
          intro v' w2 A0 B2
          go_wp2_with fail
          go_roundw
          · first | exact A8.out _ _ HE.out A0 ((hb.alloc hsz _).trans B2) | (simp [intOf];omega)
          · first | exact A8.out _ _ HE.out A0 ((hb.alloc hsz _).trans B2) | (simp [intOf];omega))
  · have A2:l.drop k=[]:=List.drop_of_length_le (by omega)
    have HN:Hid (RdS.readS l=some acc):=hZ9 (by rw [C1.out,A2];simp [RdS.Az])
    have C9:=A4.back
    clear A2
    go_wp2_with fail
    go_ret2
    exact ⟨by rw [HN.out];rfl,hb⟩
end
section
open Go.RowKit
def Et (xs:List RdS.Pr) (w:World) (e:Ending) (w':World):Prop:=e=.returned (.tuple #[.string ⟨(RdS.printS xs).1.toArray⟩,.int .i64 (RdS.printS xs).2])/\Below w.heap.size w w'
theorem Et.bad {xs:List RdS.Pr} {w w':World} (h:RdS.formedS xs=false) (hb:Below w.heap.size w w'):Et xs w (.returned (.tuple #[.string ⟨#[]⟩,.int .i64 1])) w':=by
 unfold Et RdS.printS;rw [h];exact ⟨rfl,hb⟩
def AeS (xs:List RdS.Pr) (w1:World) (i:Value) (wr:World):Prop:=∃k:Nat,k<=xs.length/\i=.int .i64 k/\Bld w1.heap.size w1.heap.size (RdS.AQ xs k) wr/\Below w1.heap.size w1 wr
theorem Ef (l:List UInt8):(⟨l.toArray⟩:ByteArray).size=l.length:=by show l.toArray.size=_;simp
theorem Ek (x y:List UInt8) (h1:x.length<=2000000) (h2:y.length<=2000000) (w:World):(Op.stringOp .add ⟨x.toArray⟩ ⟨y.toArray⟩).run Tryz.prog w=.ok (.string ⟨(x++y).toArray⟩) w:=by
 rw [<-Lt]
 exact run_string_add_sum w _ _ (by show x.toArray.size+y.toArray.size<=_;simp;omega)
theorem AaT (v:Value) (xs:List RdS.Pr) (w:World) (h:AK w v xs) (hf:Es xs) (hE:Env w):Calls Tryz.prog 108 #[v] w (Et xs w):=by
 have B1:=KP v xs w h hf hE
 unfold Ji at B1
 cases A1:RdS.formedS xs with
 | false=>
  rw [A1] at B1
  have C0:=hZ9 A1
  clear h hf A1
  go_enter Tryz.func108,Tryz.ntmps108
  go_wp2_with fail
  refine B1.mono ?_;rintro e w1 ⟨rfl,A5⟩
  go_wp2_with fail
  go_ret2
  exact Et.bad C0.out A5
 | true=>
  rw [A1] at B1
  have C0:=hZ9 A1
  have C9:=hZ9 (RdS.Ej A1)
  have D7:=hZ9 (RdS.KO A1)
  have D4:Hid (RdS.printS xs=(RdS.AQ xs xs.length,0)):=hZ9 (by unfold RdS.printS;rw [if_pos A1])
  clear A1 hf
  obtain ⟨a,c,rfl,hc,B0⟩:=h
  rcases B0 with rfl | ⟨g,o,rfl,hg,hcell⟩
  · have:=C0.out;cases this
  have HC:=hZ9 hcell
  generalize hn:xs.length=n at*
  have HN:=hZ9 hn
  have E6:n<=3:=C9.out.1
  clear hn hcell
  go_enter Tryz.func108,Tryz.ntmps108
  go_wp2_with fail
  refine B1.mono ?_;rintro e w1 ⟨rfl,A5⟩
  have D3:g<w1.heap.size:=Nat.lt_of_lt_of_le hg A5.size
  go_wp2_with fail
  go_loopw [12] (fun i wr=>AeS xs w1 i wr) (fun i _=>n - (intOf i).toNat)
  case atStart=>exact ⟨0,Nat.zero_le _,rfl,Bld.fresh w1,Af w1 _⟩
  case round=>
   obtain ⟨k,hk,rfl,B6,hb⟩:=hrel
   rw [HN.out] at hk
   have hsz:=hb.size
   by_cases D5:k<n
   · have A2:k<xs.length:=by rw [HN.out];exact D5
     obtain ⟨c0,c1⟩:=HC.out k _ (List.getElem?_eq_getElem A2)
     have D2:=hZ9 (RdS.Hh xs k A2)
     have E0:=C9.out.2 _ (List.getElem_mem A2)
     have E5:=D7.out k hk
     generalize xs[k]=p at*
     obtain ⟨t,u⟩:=p
     simp only at c0 c1 E0
     have C7:Hid (RdS.pairT (t,u)=t++[61]++RdS.Ec u):=hZ9 rfl
     replace c0:wr.cell? ⟨g,o+k*2,none⟩=some (Ac t):=(hb.cell (p:=⟨g,o+k*2,none⟩) D3).trans ((A5.cell (p:=⟨g,o+k*2,none⟩) hg).trans c0)
     replace c1:wr.cell? ⟨g,o+k*2+1,none⟩=some (Ac u):=(hb.cell (p:=⟨g,o+k*2+1,none⟩) D3).trans ((A5.cell (p:=⟨g,o+k*2+1,none⟩) hg).trans c1)
     unfold Ac at c0 c1
     have D8:=Ek t [61] (by omega) (by decide)
     have E4:(⟨t.toArray⟩++⟨#[61]⟩:ByteArray)=⟨(t++[61]).toArray⟩:=Lt t [61]
     have A6:Below w1.heap.size w1 (wr.alloc (.cells #[.string ⟨t.toArray⟩,.string ⟨u.toArray⟩] 190)):=hb.alloc hsz _
     have A8:=B6.alloc (.cells #[.string ⟨t.toArray⟩,.string ⟨u.toArray⟩] 190)
     have C6:=Whole.made wr 190 #[.string ⟨t.toArray⟩,.string ⟨u.toArray⟩]
     have D0:=hZ9 C6
     have C4:Hid (wr.heap.size≠w1.heap.size):=hZ9 (by have:=B6.lt.1;omega)
     clear A2 B6 C6
     by_cases B7:k=0
     · have B9:Hid (RdS.AQ xs (k+1)=RdS.AQ xs k++(t++[61])++RdS.Ec u):=hZ9 (by rw [D2.out,if_pos B7,C7.out];simp)
       have E1:decide ((0:Int)<(k:Int))=false:=decide_eq_false (by omega)
       have C3:decide (0<k)=false:=decide_eq_false (by omega)
       clear B7
       generalize RdS.AQ xs k=acc at*
       go_wp2_with fail
       have hL:acc.length+(⟨(t++[61]).toArray⟩:ByteArray).size<=900000000:=by rw [Ef,List.length_append,List.length_singleton];omega
       have A7:=Lc w1.heap.size w1.heap.size acc ⟨(t++[61]).toArray⟩ _ A8 hL A6.size
       refine A7.mono ?_
       rintro e w2 ⟨rfl,A9,A3,B3⟩
       have B4:=B3.cell (by decide) C4.out D0.out
       have d1:w2.cell? ⟨wr.heap.size,1,none⟩=some (.string ⟨u.toArray⟩):=B4.cell 1
       have B8:w1.heap.size<=w2.heap.size:=(A6.trans A3).size
       clear B3 B4
       go_wp2_with fail
       have A0:Bld w1.heap.size w1.heap.size (acc++(t++[61])) w2:=A9.bld
       have B5:(acc++(t++[61])).length<=100000000:=by rw [List.length_append,List.length_append,List.length_singleton];omega
       have B2:u.length<=100000000:=by omega
       have C5:=UC w1.heap.size w1.heap.size _ u _ A0 B5 B2 B8
       clear hL B5 B2 A9 A0 A7
       refine C5.mono ?_
       rintro e w3 ⟨rfl,C2,C1⟩
       go_wp2_with fail
       go_roundw
       case rel=>exact ⟨k+1,by rw [HN.out];omega,by go_num,by rw [B9.out];exact C2,(A6.trans A3).trans C1⟩
       case measure=>simp [intOf];omega
     · have B9:Hid (RdS.AQ xs (k+1)=RdS.AQ xs k++[43]++(t++[61])++RdS.Ec u):=hZ9 (by rw [D2.out,if_neg B7,C7.out];simp)
       have E1:(0:Int)<(k:Int):=by omega
       have C3:0<k:=by omega
       clear B7
       generalize RdS.AQ xs k=acc at*
       go_wp2_with fail
       refine (Df w1.heap.size w1.heap.size acc 43 _ A8 (by omega) A6.size).mono ?_
       rintro e w15 ⟨rfl,D6,A4,D1⟩
       have C8:=D1.cell (by decide) C4.out D0.out
       have d0:w15.cell? ⟨wr.heap.size,0,none⟩=some (.string ⟨t.toArray⟩):=C8.cell 0
       have D9:w1.heap.size<=w15.heap.size:=(A6.trans A4).size
       clear D1
       go_wp2_with fail
       have hL:(acc++[43]).length+(⟨(t++[61]).toArray⟩:ByteArray).size<=900000000:=by rw [Ef,List.length_append,List.length_append,List.length_singleton,List.length_singleton];omega
       have A7:=Lc w1.heap.size w1.heap.size (acc++[43]) ⟨(t++[61]).toArray⟩ _ D6.bld hL D9
       refine A7.mono ?_
       rintro e w2 ⟨rfl,A9,A3,B3⟩
       have B4:=B3.cell (by decide) C4.out C8
       have d1:w2.cell? ⟨wr.heap.size,1,none⟩=some (.string ⟨u.toArray⟩):=B4.cell 1
       have B8:w1.heap.size<=w2.heap.size:=((A6.trans A4).trans A3).size
       clear B3 B4
       go_wp2_with fail
       have A0:Bld w1.heap.size w1.heap.size (acc++[43]++(t++[61])) w2:=A9.bld
       have B5:(acc++[43]++(t++[61])).length<=100000000:=by rw [List.length_append,List.length_append,List.length_append,List.length_singleton,List.length_singleton];omega
       have B2:u.length<=100000000:=by omega
       have C5:=UC w1.heap.size w1.heap.size _ u _ A0 B5 B2 B8
       clear hL B5 B2 A9 A0 A7
       refine C5.mono ?_
       rintro e w3 ⟨rfl,C2,C1⟩
       go_wp2_with fail
       go_roundw
       case rel=>exact ⟨k+1,by rw [HN.out];omega,by go_num,by rw [B9.out];exact C2,((A6.trans A4).trans A3).trans C1⟩
       case measure=>simp [intOf];omega
   · have E3:k=n:=by omega
     subst E3
     have E2:=Tryz.Builder_String_any w1.heap.size w1.heap.size (RdS.AQ xs k) wr (by first | exact B6 | simpa [Bld,Ag,Lib.byteCells] using B6) hsz
     generalize RdS.AQ xs k=tx at*
     go_wp2_with fail
     refine E2.mono ?_;rintro e w2 ⟨rfl,A3⟩
     go_wp2_with fail
     go_ret2
     exact ⟨by rw [D4.out];rfl,A5.trans ((hb.trans A3).mono A5.size)⟩
end
section
open Go.RowKit
attribute [local go_sem ↓] Go.wp_at_zero Go.wp_at_succ
theorem Yu {w:World} {ops:Array Oper} {o:Oper} {a:Act} {K:Act->World->Prop} {Q:Exit->Act->World->Prop} {E:Prop} (A3:o.guard=none) (s x:Operand)
  (ho:o.op=.call { callee:=.builtin .append,args:=#[s,x],argTypes:=#[157,157] })
  (B:Nat) (v:Value) (l:List UInt8) (hs:a.eval s=v) (A0:OwnB w B v l) (g m c:Nat) (hx:a.eval x=.slice (some ⟨g,0,none⟩) m c)
  (ys:List UInt8) (hm:ys.length=m) (hc:∀(j:Nat) (y:UInt8),ys[j]?=some y->w.cell? ⟨g,j,none⟩=some (Ag y)) (hn:l.length+m<=1000000000) (hB:B<=w.heap.size)
  (hK:∀v' w',OwnB w' B v' (l++ys)->Below B w w'->K (a.put o.dst v') w'):if Region.wanted o (yielded ops a.tmps)=true then Oper.wp Tryz.prog o a w K Q else E:=by
 have hw:Region.wanted o (yielded ops a.tmps)=true:=by simp [Region.wanted,A3]
 rw [if_pos hw]
 obtain ⟨i0,hi,A4,A2,A5⟩:=info_parts OU
 subst hm
 refine wp_append_own w s x _ ho B 5 i0 (.int .u8 0) 1 1 Tryz.underlying157 hi A4 A2 A5 rfl (by decide) v l.length (l.map Ag) hs A0 ⟨g,0,none⟩ ys.length c (ys.map Ag) hx (by simp)
  (fun j u hj=>?_) (fun u hu=>?_) (by unfold maxLen;omega) (by omega) hB (fun v' w' h1 h2 _=>hK v' w' ?_ ?_)
 · rw [List.getElem?_map] at hj
   cases hy:ys[j]? with
   | none=>rw [hy] at hj;cases hj
   | some y=>
    rw [hy] at hj
    have hj:=Option.some.inj hj
    subst hj
    have A1:(⟨g,0,none⟩:Addr).add j=⟨g,j,none⟩:=by unfold Addr.add;split <;> simp_all
    rw [A1]
    exact hc j y hy
 · obtain ⟨y,_,rfl⟩:=List.mem_map.1 hu;rfl
 · unfold OwnB
   rw [List.map_append,List.length_append]
   exact h1
 · exact (Below.refl B w).grown h2 hB (fun k hk=>(World.ownsRow.lt A0 k hk).1)
def Xo (l:List UInt8) (w:World) (out i:Value) (wr:World):Prop:=∃k:Nat,k<=l.length/\i=.int .i64 k/\OwnB wr w.heap.size out (RdS.CX l k)/\Below w.heap.size w wr
theorem Yv (l:List UInt8) (hl:l.length<=1000000) (w:World):Calls Tryz.prog 118 #[.string ⟨l.toArray⟩] w fun e w'=>e=.returned (.string ⟨(RdS.Ec l).toArray⟩)/\Below w.heap.size w w':=by
 go_enter Tryz.func118,Tryz.ntmps118
 go_wp2_with fail
 go_loopw [3,4] (fun out i wr=>Xo l w out i wr) (fun _ i _=>l.length - (intOf i).toNat)
 case atStart=>exact ⟨0,Nat.zero_le _,rfl,OwnB.empty _ _,Below.refl _ _⟩
 case round=>
  obtain ⟨k,hk,rfl,A1,hb⟩:=hrel
  have hsz:=hb.size
  by_cases A8:k<l.length
  · have HS:=hZ9 (RdS.Ip l k A8)
    have B5:=RdS.Je l k hk
    have B2:(RdS.CX l k).length<=3000000:=by omega
    generalize A9:l[k]=c at*
    have B7:∀h,(⟨l.toArray⟩:ByteArray)[k]'h=c:=fun _=>A9
    clear A9 B5
    have B6:((k:Int)==0)=decide (k=0):=by rw [Bool.eq_iff_iff,beq_iff_eq,decide_eq_true_eq];omega
    have el:((k:Int)==(l.length:Int) - 1)=decide (k+1=l.length):=by rw [Bool.eq_iff_iff,beq_iff_eq,decide_eq_true_eq];omega
    have B8:((c.toNat:Int)==32)=(c==32):=PD rfl
    have B9:((c.toNat:Int)==35)=(c==35):=PD rfl
    have A5:=fun w=>LG c w
    have A3:Hid (∀(x:List UInt8) (out i:Value) (w2:World),i=.int .i64 ((k+1:Nat):Int)->RdS.Bd (decide (k=0)) (decide (k+1=l.length)) c=x->OwnB w2 w.heap.size out (RdS.CX l k++x)->Below w.heap.size w w2->Xo l w out i w2):=
     hZ9 (fun x out i w2 hi hx h1 h2=>⟨k+1,A8,hi,by rw [HS.out,hx];exact h1,h2⟩)
    have HQ:Hid (∀f la,(RdS.Ar c||(c==32&&(f||la))||(c==35&&f))=true->RdS.Bd f la c=[92,c]):=hZ9 (fun f la h=>BC h)
    have HX:Hid (∀f la,(RdS.Ar c||(c==32&&(f||la))||(c==35&&f))=false->(decide (c.toNat<32)||decide (126<c.toNat))=true->RdS.Bd f la c=[92,RdS.Bj (c.toNat / 16),RdS.Bj (c.toNat % 16)]):=hZ9 (fun f la h h2=>IL h h2)
    have HP:Hid (∀f la,(RdS.Ar c||(c==32&&(f||la))||(c==35&&f))=false->(decide (c.toNat<32)||decide (126<c.toNat))=false->RdS.Bd f la c=[c]):=hZ9 (fun f la h h2=>DW h h2)
    have hx1:=Md c
    have B1:=Me c
    have hand:bits .and .u8 (c.toNat:Int) 15=(c.toNat:Int) % 16:=u8_and15 (c.toNat:Int) (by omega) (by have:=c.toNat_lt;omega)
    generalize decide (k+1=l.length)=ql at*
    generalize decide (k=0)=qf at*
    generalize RdS.Ar c=sv at*
    generalize (c==32)=z32 at*
    generalize (c==35)=z35 at*
    generalize RdS.CX l k=acc at*
    by_cases A7:(sv||(z32&&(qf||ql))||(z35&&qf))=true
    · have HE:=hZ9 (HQ.out qf ql A7)
      clear hx1 B1
      cases sv <;> cases z32 <;> cases z35 <;> cases qf <;> cases ql
      all_goals first
       | (exact absurd A7 (by decide))
       | (clear A7
          go_wp2_with fail
          refine (A5 _).mono ?_;rintro e w1 ⟨rfl,rfl⟩
          go_wp2_with (at_builtin;refine DN (by rfl) _ _ (by rfl) w.heap.size _ acc (by rfl) (A1.alloc _) wr.heap.size 2 2 (by rfl) [92,c] (by rfl) (CN (by simp [go_sem,Ag]) (by simp [go_sem,Ag])) (by omega) (by simp;omega) ?_)
          intro v' w2 A0 A4
          go_wp2_with fail
          go_roundw
          · first | exact A3.out _ _ _ _ (by go_num) HE.out A0 ((hb.alloc hsz _).trans A4) | (simp [intOf];omega)
          · first | exact A3.out _ _ _ _ (by go_num) HE.out A0 ((hb.alloc hsz _).trans A4) | (simp [intOf];omega))
    · have A2:(sv||(z32&&(qf||ql))||(z35&&qf))=false:=by simpa using A7
      clear A7
      by_cases hu:c.toNat<32\/126<c.toNat
      · have HE:=hZ9 (HX.out qf ql A2 (by rcases hu with hu | hu <;> simp [hu]))
        have B3:(decide ((c.toNat:Int)<32)=true)\/(decide ((c.toNat:Int)<32)=false/\decide ((126:Int)<(c.toNat:Int))=true):=by
         by_cases h:c.toNat<32
         · exact .inl (decide_eq_true (by omega))
         · exact .inr ⟨decide_eq_false (by omega),decide_eq_true (by omega)⟩
        clear hu
        have A6:=A1
        clear A1
        rcases B3 with g1 | ⟨g1,g2⟩
        all_goals cases sv <;> cases z32 <;> cases z35 <;> cases qf <;> cases ql
        all_goals first
         | (exact absurd A2 (by decide))
         | (clear A2
            go_wp2_with fail
            refine (A5 _).mono ?_;rintro e w1 ⟨rfl,rfl⟩
            go_wp2_with fail
            go_region_law (first | (refine Yu (by rfl) _ _ (by rfl) w.heap.size _ acc (by rfl) (World.ownsRow.alloc A6 _) wr.heap.size 3 3 (by rfl) [92,RdS.Bj (c.toNat / 16),RdS.Bj (c.toNat % 16)] (by rfl) (Di (by simp [go_sem,Ag]) (by simp [go_sem,Ag]) (by simp [go_sem,Ag])) (by omega) (by simp;omega) ?_;intro v' w2 A0 A4))
            all_goals go_wp2_with fail
            all_goals go_roundw
            all_goals first | exact A3.out _ _ _ _ (by go_num) HE.out A0 ((hb.drew.alloc hsz _).trans A4) | (simp [intOf];omega))
      · have HE:=hZ9 (HP.out qf ql A2 (by rw [decide_eq_false (fun h=>hu (.inl h)),decide_eq_false (fun h=>hu (.inr h))];rfl))
        have g1:decide ((c.toNat:Int)<32)=false:=decide_eq_false (by omega)
        have g2:decide ((126:Int)<(c.toNat:Int))=false:=decide_eq_false (by omega)
        clear hu hx1 B1
        cases sv <;> cases z32 <;> cases z35 <;> cases qf <;> cases ql
        all_goals first
         | (exact absurd A2 (by decide))
         | (clear A2
            go_wp2_with fail
            refine (A5 _).mono ?_;rintro e w1 ⟨rfl,rfl⟩
            go_wp2_with (at_builtin;refine DN (by rfl) _ _ (by rfl) w.heap.size _ acc (by rfl) (A1.alloc _) wr.heap.size 1 1 (by rfl) [c] (by rfl) (by first | exact one_cell (by simp [go_sem,Ag]) | exact EN _) (by omega) (by simp;omega) ?_)
            intro v' w2 A0 A4
            go_wp2_with fail
            go_roundw
            · first | exact A3.out _ _ _ _ (by go_num) HE.out A0 ((hb.alloc hsz _).trans A4) | (simp [intOf];omega)
            · first | exact A3.out _ _ _ _ (by go_num) HE.out A0 ((hb.alloc hsz _).trans A4) | (simp [intOf];omega))
  · have B4:k=l.length:=by omega
    subst B4
    have B0:=A1.back
    have HE:Hid (RdS.CX l l.length=RdS.Ec l):=hZ9 rfl
    clear A1
    go_wp2_with fail
    go_ret
    exact ⟨by rw [<-HE.out];rfl,hb⟩
end
end Go.Proofs.YtgngjfjaelgaeaaGreatDoor
