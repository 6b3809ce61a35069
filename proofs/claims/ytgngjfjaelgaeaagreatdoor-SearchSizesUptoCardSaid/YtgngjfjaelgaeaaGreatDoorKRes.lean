/- The walks of a step of following aliases, the program's and the document's. Conditions: as stated. -/
import Derived.Test.YtgngjfjaelgaeaaGreatDoorKCqa
set_option maxRecDepth 100000
set_option maxHeartbeats 4000000
namespace Go.Proofs.YtgngjfjaelgaeaaGreatDoor
open Go.RowKit
namespace EnS
def UQ (o:Option (List UInt8 × List UInt8)):Int:=match o with | none=>-1 | some p=>((DnS.Ad p.1).1.length:Int)
def frO (o:Option (List UInt8 × List UInt8)):List UInt8:=match o with | none=>[] | some p=>p.1
def toO (o:Option (List UInt8 × List UInt8)):List UInt8:=match o with | none=>[] | some p=>p.2
theorem Abi {n:List UInt8} {acc:Option (List UInt8 × List UInt8)} {e:En} (h:(CZ e).2=false):EH n acc e=acc:=by unfold EH JV;rw [h];rfl
theorem UR {n:List UInt8} {acc:Option (List UInt8 × List UInt8)} {e:En} (h:DnS.ED n e.name=false):EH n acc e=acc:=by unfold EH JV;rw [h,Bool.and_false];rfl
theorem UT {n:List UInt8} {e:En} (h:(CZ e).2=true) (h2:DnS.ED n e.name=true):EH n none e=some (e.name,(CZ e).1):=by unfold EH JV;rw [h,h2];rfl
theorem Wq {n:List UInt8} {q:List UInt8 × List UInt8} {e:En} (h:(CZ e).2=true) (h2:DnS.ED n e.name=true) (h3:(DnS.Ad e.name).1.length<(DnS.Ad q.1).1.length):EH n (some q) e=some (e.name,(CZ e).1):=by
 have hb:JV n (some q) e=true:=by
  show ((CZ e).2&&DnS.ED n e.name&&decide ((DnS.Ad e.name).1.length<(DnS.Ad q.1).1.length))=true
  rw [h,h2,decide_eq_true h3];rfl
 unfold EH
 rw [if_pos hb]
theorem Ws {n:List UInt8} {q:List UInt8 × List UInt8} {e:En} (h3:¬(DnS.Ad e.name).1.length<(DnS.Ad q.1).1.length):EH n (some q) e=some q:=by
 have hb:¬JV n (some q) e=true:=by
  show ¬((CZ e).2&&DnS.ED n e.name&&decide ((DnS.Ad e.name).1.length<(DnS.Ad q.1).1.length))=true
  rw [decide_eq_false h3,Bool.and_false];simp
 unfold EH
 rw [if_neg hb]
theorem UU {n:List UInt8}:∀{l:List En} {acc:Option (List UInt8 × List UInt8)} {q:List UInt8 × List UInt8},l.foldl (EH n) acc=some q->acc=some q\/∃e ∈ l,q=(e.name,(CZ e).1)
 | [],_,_,h=>.inl h
 | e :: l,acc,q,h=>by
  rw [List.foldl_cons] at h
  rcases UU h with h | ⟨x,hx,h⟩
  · unfold EH at h
    split at h
    · exact .inr ⟨e,List.mem_cons_self ..,(Option.some.inj h).symm⟩
    · exact .inl h
  · exact .inr ⟨x,List.mem_cons_of_mem _ hx,h⟩
theorem YE (v:List UInt8):(DnS.AB Dm v).1.length<=1000:=by
 have h5:(RuS.typeOf Dm).2=5:=by decide+kernel
 unfold DnS.AB
 rw [if_pos h5]
 split
 · simp
 · split
   · exact DnS.GZ v
   · simp
theorem Abj (e:En):(CZ e).1.length<=1000:=by
 unfold CZ Vs
 split
 · simp
 · split
   · exact YE _
   · simp
theorem UV {n:List UInt8} {l:List En} {q:List UInt8 × List UInt8} (h:Fv n l=some q) (hf:∀e ∈ l,e.name.length<=1000000):q.1.length<=1000000/\q.2.length<=1000000:=by
 rcases UU h with h | ⟨e,he,rfl⟩
 · cases h
 · exact ⟨hf e he,Nat.le_trans (Abj e) (by decide)⟩
end EnS
def FH (xs:List EnS.En):Prop:=xs.length<=1048576/\∀x ∈ xs,x.name.length<=1000000/\GP x.attrs
def BL (r:List UInt8 × Bool × Int) (w:World) (e:Ending) (w':World):Prop:=e=.returned (.tuple #[.string ⟨r.1.toArray⟩,.bool r.2.1,.int .i64 r.2.2])/\Below w.heap.size w w'
theorem BL.mk' {r q:List UInt8 × Bool × Int} {w w':World} (h:r=q) (hb:Below w.heap.size w w'):BL r w (.returned (.tuple #[.string ⟨q.1.toArray⟩,.bool q.2.1,.int .i64 q.2.2])) w':=by subst h;exact ⟨rfl,hb⟩
theorem Abk {l:List EnS.En} {s n:List UInt8} {e:Int} (h:DnS.Au s=(n,e)) (he:e≠0):EnS.stepS l s=([],false,34):=by unfold EnS.stepS;rw [h,if_neg he]
theorem YF {l:List EnS.En} {s n:List UInt8} (h:DnS.Au s=(n,0)):EnS.stepS l s=EnS.MX n (EnS.Fv n l):=by unfold EnS.stepS;rw [h];exact if_pos rfl
theorem YG {n:List UInt8} {q:List UInt8 × List UInt8} {x:List UInt8} (h:DnS.CU n q.1 q.2=(x,0)):EnS.MX n (some q)=(x,true,0):=by
 show (if (DnS.CU n q.1 q.2).2=0 then ((DnS.CU n q.1 q.2).1,true,0) else ([],false,33))=_
 rw [h];exact if_pos rfl
theorem Abl {n:List UInt8} {q:List UInt8 × List UInt8} {x:List UInt8} {e:Int} (h:DnS.CU n q.1 q.2=(x,e)) (he:e≠0):EnS.MX n (some q)=([],false,33):=by
 show (if (DnS.CU n q.1 q.2).2=0 then ((DnS.CU n q.1 q.2).1,true,0) else ([],false,33))=_
 rw [h];exact if_neg he
theorem AeU (v:Value) (xs:List EnS.En) (s:List UInt8) (w:World) (hE:Env w) (h:Bq w v xs) (hf:FH xs) (hs:s.length<=1000000):
  Calls Tryz.prog 39 #[v,.string ⟨s.toArray⟩] w (BL (EnS.stepS xs s) w):=by
 have h1:=Ik s hs w hE
 unfold BM at h1
 have D9:=DnS.GZ s
 have HB:=hZ9 (fun n e=>Abk (l:=xs) (s:=s) (n:=n) (e:=e))
 have HG:=hZ9 (fun n=>YF (l:=xs) (s:=s) (n:=n))
 generalize EnS.stepS xs s=R at*
 obtain ⟨n,e0⟩:∃n e,DnS.Au s=(n,e):=⟨_,_,rfl⟩
 obtain ⟨e0,C3⟩:=e0
 rw [C3] at h1 D9
 simp only at h1 D9
 obtain ⟨hl,C8⟩:=hf
 obtain ⟨a,c,rfl,hc,E1⟩:=Ae.at h
 have E4:=hZ9 E1
 have D8:=hZ9 (fun k (h:k<xs.length)=>C8 xs[k] (List.getElem_mem h))
 have C5:=hZ9 (fun k (h:k<xs.length)=>EnS.AbD (n:=n) h)
 have C9:=hZ9 (fun q (h:EnS.Fv n xs=some q)=>EnS.UV h (fun e he=>(C8 e he).1))
 have C6:=hZ9 (fun k q (h:EnS.Fv n (xs.take k)=some q)=>EnS.UV h (fun e he=>(C8 e (List.mem_of_mem_take he)).1))
 clear E1 h C8
 by_cases he:e0=0
 case neg=>
  have HR:=hZ9 (HB.out n e0 C3 he)
  have F3:(e0 !=0)=true:=by simpa using he
  clear HB HG C3 E4 D8 C5 C9 C6
  generalize xs.length=m at*
  go_enter Tryz.func39,Tryz.ntmps39
  go_wp2_with fail
  refine h1.mono ?_;rintro e w1 ⟨rfl,D3⟩
  go_wp2_with fail
  go_ret3
  exact BL.mk' HR.out D3
 subst he
 have HR:=hZ9 (HG.out n C3)
 clear HB HG C3
 generalize E2:xs.length=m at hc hl⊢
 have HN:=hZ9 E2
 clear E2
 go_enter Tryz.func39,Tryz.ntmps39
 go_wp2_with fail
 refine h1.mono ?_;rintro e w1 ⟨rfl,D3⟩
 go_wp2_with fail
 go_loopw [9,10,11,26] (fun l f t i wr=>∃k:Nat,k<=m/\i=.int .i64 k/\l=.int .i64 (EnS.UQ (EnS.Fv n (xs.take k)))/\f=.string ⟨(EnS.frO (EnS.Fv n (xs.take k))).toArray⟩/\t=.string ⟨(EnS.toO (EnS.Fv n (xs.take k))).toArray⟩/\Below w.heap.size w wr) (fun _ _ _ i _=>m - (intOf i).toNat)
 case atStart=>exact ⟨0,Nat.zero_le _,rfl,rfl,rfl,rfl,D3⟩
 case round=>
  obtain ⟨k,hk,rfl,rfl,rfl,rfl,hb⟩:=hrel
  by_cases E9:k<m
  · have B1:k<xs.length:=by rw [HN.out];exact E9
    obtain ⟨g,o,rfl,hg,_,hra⟩:=E4.out k B1
    have E5:=Db.call hra hg trivial hb
    obtain ⟨c0,a1,p1,c1,E6,A2⟩:=Db.parts E5
    have F2:=D8.out k B1
    have A0:=hZ9 (C5.out k B1)
    have F5:=hZ9 (C6.out k)
    clear hra E5 C5 C6
    generalize xs[k]=x at*
    clear B1
    obtain ⟨name,attrs⟩:=x
    obtain ⟨D2,D6⟩:=F2
    simp only at c0 c1 E6 A2 D2 D6
    generalize EnS.Fv n (xs.take k)=A at*
    have D5:=Af wr (.cells #[.string ⟨name.toArray⟩,.slice a1 attrs.length p1] 52)
    have A9:=Whole.made wr 52 #[.string ⟨name.toArray⟩,.slice a1 attrs.length p1]
    have B8:=(hE.below hb).below D5
    have C4:=A2.call D5
    have A3:=hb.trans (D5.mono hb.size)
    have B5:=WS name attrs _ _ B8 C4 D6
    have C1:=fun w hE=>ZJ name D2 w hE
    have B6:=fun w hE=>QM n name (by omega) D2 w hE
    have C0:=hZ9 (EnS.Abi (n:=n) (acc:=A) (e:=⟨name,attrs⟩))
    have B7:=hZ9 (EnS.UR (n:=n) (acc:=A) (e:=⟨name,attrs⟩))
    have B4:=hZ9 (EnS.UT (n:=n) (e:=⟨name,attrs⟩))
    have A8:=hZ9 (fun q=>EnS.Wq (n:=n) (q:=q) (e:=⟨name,attrs⟩))
    have B0:=hZ9 (fun q=>EnS.Ws (n:=n) (q:=q) (e:=⟨name,attrs⟩))
    unfold OE at B5
    unfold SJ at C1
    unfold DK at B6
    simp only at B7 B4 A8 B0
    generalize EnS.CZ ⟨name,attrs⟩=AL at*
    obtain ⟨tg,al⟩:=AL
    generalize DnS.ED n name=un at*
    simp only at B5 C0 B4 A8
    generalize E0:(DnS.Ad name).1.length=dl at*
    have D7:=hZ9 E0
    clear E0
    generalize D4:attrs.length=n1 at*
    clear A2 D4 C4 D6
    cases al with
    | false=>
     have A0:=hZ9 (A0.out.trans (C0.out rfl))
     clear C0 B7 B4 A8 B0 B6
     go_wp2_with fail
     refine B5.mono ?_;rintro e wa ⟨rfl,hx1⟩
     have A4:=A3.trans (hx1.mono A3.size)
     have A5:=B8.below hx1
     have q0:=(A9.call hx1).cell 0
     have q1:=(A9.call hx1).cell 1
     simp only [List.getElem?_toArray,List.getElem?_cons_zero,List.getElem?_cons_succ] at q0 q1
     go_wp2_with fail
     refine (C1 _ A5).mono ?_;rintro e wb ⟨rfl,A1⟩
     have A6:=A4.trans (A1.mono A4.size)
     have B3:=A5.below A1
     have q2:=Ab q0 A1
     have q3:=Ab q1 A1
     go_wp2_with fail
     go_roundw
     case rel=>exact ⟨k+1,by omega,by go_num,by rw [A0.out],by rw [A0.out],by rw [A0.out],A6⟩
     case measure=>simp [intOf];omega
    | true=>
     cases un with
     | false=>
      have A0:=hZ9 (A0.out.trans (B7.out rfl))
      clear C0 B7 B4 A8 B0
      go_wp2_with fail
      refine B5.mono ?_;rintro e wa ⟨rfl,hx1⟩
      have A4:=A3.trans (hx1.mono A3.size)
      have A5:=B8.below hx1
      have q0:=(A9.call hx1).cell 0
      have q1:=(A9.call hx1).cell 1
      simp only [List.getElem?_toArray,List.getElem?_cons_zero,List.getElem?_cons_succ] at q0 q1
      go_wp2_with fail
      refine (C1 _ A5).mono ?_;rintro e wb ⟨rfl,A1⟩
      have A6:=A4.trans (A1.mono A4.size)
      have B3:=A5.below A1
      have q2:=Ab q0 A1
      have q3:=Ab q1 A1
      go_wp2_with fail
      refine (B6 _ B3).mono ?_;rintro e wc ⟨rfl,A7⟩
      have B2:=A6.trans (A7.mono A6.size)
      have q4:=Ab q2 A7
      go_wp2_with fail
      go_roundw
      case rel=>exact ⟨k+1,by omega,by go_num,by rw [A0.out],by rw [A0.out],by rw [A0.out],B2⟩
      case measure=>simp [intOf];omega
     | true=>
      cases A with
      | none=>
       have A0:=hZ9 (A0.out.trans (B4.out rfl rfl))
       clear C0 B7 B4 A8 B0
       simp only [EnS.UQ,EnS.frO,EnS.toO]
       go_wp2_with fail
       refine B5.mono ?_;rintro e wa ⟨rfl,hx1⟩
       have A4:=A3.trans (hx1.mono A3.size)
       have A5:=B8.below hx1
       have q0:=(A9.call hx1).cell 0
       have q1:=(A9.call hx1).cell 1
       simp only [List.getElem?_toArray,List.getElem?_cons_zero,List.getElem?_cons_succ] at q0 q1
       go_wp2_with fail
       refine (C1 _ A5).mono ?_;rintro e wb ⟨rfl,A1⟩
       have A6:=A4.trans (A1.mono A4.size)
       have B3:=A5.below A1
       have q2:=Ab q0 A1
       have q3:=Ab q1 A1
       go_wp2_with fail
       refine (B6 _ B3).mono ?_;rintro e wc ⟨rfl,A7⟩
       have B2:=A6.trans (A7.mono A6.size)
       have q4:=Ab q2 A7
       go_wp2_with fail
       go_quiet (fail)
       go_wp2_with fail
       go_roundw
       case rel=>exact ⟨k+1,by omega,by go_num,by rw [A0.out];show _=Value.int .i64 ((DnS.Ad name).1.length:Int);rw [D7.out],by rw [A0.out],by rw [A0.out],(B2.trans ((below_drewN wc nq).mono B2.size))⟩
       case measure=>simp [intOf];omega
      | some q=>
       have A8:=hZ9 (A8.out q rfl rfl)
       have B0:=hZ9 (B0.out q)
       clear C0 B7 B4
       simp only [EnS.UQ,EnS.frO,EnS.toO]
       obtain ⟨qa,qb⟩:=q
       simp only at A8 B0⊢
       generalize E3:(DnS.Ad qa).1.length=ql at*
       have F1:=hZ9 E3
       clear E3
       have E8:decide ((ql:Int)<0)=false:=decide_eq_false (by omega)
       by_cases hd:dl<ql
       · have A0:=hZ9 (A0.out.trans (A8.out hd))
         have F0:decide ((dl:Int)<(ql:Int))=true:=decide_eq_true (by omega)
         clear A8 B0
         go_wp2_with fail
         refine B5.mono ?_;rintro e wa ⟨rfl,hx1⟩
         have A4:=A3.trans (hx1.mono A3.size)
         have A5:=B8.below hx1
         have q0:=(A9.call hx1).cell 0
         have q1:=(A9.call hx1).cell 1
         simp only [List.getElem?_toArray,List.getElem?_cons_zero,List.getElem?_cons_succ] at q0 q1
         go_wp2_with fail
         refine (C1 _ A5).mono ?_;rintro e wb ⟨rfl,A1⟩
         have A6:=A4.trans (A1.mono A4.size)
         have B3:=A5.below A1
         have q2:=Ab q0 A1
         have q3:=Ab q1 A1
         go_wp2_with fail
         refine (B6 _ B3).mono ?_;rintro e wc ⟨rfl,A7⟩
         have B2:=A6.trans (A7.mono A6.size)
         have q4:=Ab q2 A7
         go_wp2_with fail
         go_quiet (fail)
         go_wp2_with fail
         go_roundw
         case rel=>exact ⟨k+1,by omega,by go_num,by rw [A0.out];show _=Value.int .i64 ((DnS.Ad name).1.length:Int);rw [D7.out],by rw [A0.out],by rw [A0.out],(B2.trans ((below_drewN wc nq).mono B2.size))⟩
         case measure=>simp [intOf];omega
       · have A0:=hZ9 (A0.out.trans (B0.out hd))
         have F0:decide ((dl:Int)<(ql:Int))=false:=decide_eq_false (by omega)
         clear A8 B0
         go_wp2_with fail
         refine B5.mono ?_;rintro e wa ⟨rfl,hx1⟩
         have A4:=A3.trans (hx1.mono A3.size)
         have A5:=B8.below hx1
         have q0:=(A9.call hx1).cell 0
         have q1:=(A9.call hx1).cell 1
         simp only [List.getElem?_toArray,List.getElem?_cons_zero,List.getElem?_cons_succ] at q0 q1
         go_wp2_with fail
         refine (C1 _ A5).mono ?_;rintro e wb ⟨rfl,A1⟩
         have A6:=A4.trans (A1.mono A4.size)
         have B3:=A5.below A1
         have q2:=Ab q0 A1
         have q3:=Ab q1 A1
         go_wp2_with fail
         refine (B6 _ B3).mono ?_;rintro e wc ⟨rfl,A7⟩
         have B2:=A6.trans (A7.mono A6.size)
         have q4:=Ab q2 A7
         go_wp2_with fail
         go_roundw
         case rel=>exact ⟨k+1,by omega,by go_num,by rw [A0.out];show _=Value.int .i64 ((DnS.Ad qa).1.length:Int);rw [F1.out],by rw [A0.out],by rw [A0.out],B2⟩
         case measure=>simp [intOf];omega
  · have C2:xs.take k=xs:=List.take_of_length_le (by rw [HN.out];omega)
    rw [C2]
    clear C5 C6 C2
    obtain ⟨A,hA⟩:∃A,EnS.Fv n xs=A:=⟨_,rfl⟩
    rw [hA] at HR⊢
    cases A with
    | none=>
     have HZ:Hid (R=(n,false,0)):=hZ9 HR.out
     clear hA C9
     simp only [EnS.UQ,EnS.frO,EnS.toO]
     go_wp2_with fail
     go_ret3
     exact BL.mk' HZ.out hb
    | some q=>
     obtain ⟨F4,E7⟩:=C9.out q hA
     have B9:=Aci n q.1 q.2 (by omega) F4 E7 wr (hE.below hb)
     have D0:=hZ9 (fun x=>YG (n:=n) (q:=q) (x:=x))
     have C7:=hZ9 (fun x e=>Abl (n:=n) (q:=q) (x:=x) (e:=e))
     unfold BM at B9
     clear hA C9
     generalize EnS.MX n (some q)=TR at*
     simp only [EnS.UQ,EnS.frO,EnS.toO]
     obtain ⟨qa,qb⟩:=q
     simp only at B9 D0 C7⊢
     obtain ⟨x,e1,hM⟩:∃x e,DnS.CU n qa qb=(x,e):=⟨_,_,rfl⟩
     rw [hM] at B9
     simp only at B9
     generalize (DnS.Ad qa).1.length=ql at*
     have E8:decide ((ql:Int)<0)=false:=decide_eq_false (by omega)
     by_cases D1:e1=0
     · subst D1
       have HZ:=hZ9 (HR.out.trans (D0.out x hM))
       clear D0 C7 HR hM
       go_wp2_with fail
       refine B9.mono ?_;rintro e w2 ⟨rfl,A3⟩
       go_wp2_with fail
       go_ret3
       exact BL.mk' HZ.out (hb.trans (A3.mono hb.size))
     · have F3:(e1 !=0)=true:=by simpa using D1
       have HZ:=hZ9 (HR.out.trans (C7.out x e1 hM D1))
       clear D0 C7 HR hM
       go_wp2_with fail
       refine B9.mono ?_;rintro e w2 ⟨rfl,A3⟩
       go_wp2_with fail
       go_ret3
       exact BL.mk' HZ.out (hb.trans (A3.mono hb.size))
end Go.Proofs.YtgngjfjaelgaeaaGreatDoor
