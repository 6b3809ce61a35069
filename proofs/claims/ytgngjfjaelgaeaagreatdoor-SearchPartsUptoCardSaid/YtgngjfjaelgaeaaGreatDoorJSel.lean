/- The walk of search.Select. Conditions: as stated. -/
import Derived.Test.YtgngjfjaelgaeaaGreatDoorJSeb
set_option maxRecDepth 100000
set_option maxHeartbeats 8000000
namespace Go.Proofs.YtgngjfjaelgaeaaGreatDoor
open Go.Proofs.Tryz
open Go.RowKit
attribute [local go_sem ↓] Go.wp_at_zero Go.wp_at_succ
theorem SR (l:List UInt8):(RuS.typeOf l).2≠0↔(RuS.typeOf l).1≠[]:=by
 unfold RuS.typeOf RuS.typeM;split
 · rename_i r h;have:=RuS.tab_all r (dO h);constructor
   · intro _ e;rw [e] at this;simp at this
   · intro _;omega
 · simp
theorem Afr (l:List UInt8):(RuS.typeOf l).1.length<=17:=by
 unfold RuS.typeOf RuS.typeM;split
 · rename_i r h;exact (RuS.tab_all r (dO h)).2.2.1
 · exact aR _
def Eo (at_:List (List UInt8)):List UInt8->Option Value:=fun s=>if at_.any (fun x=>(RuS.typeOf x).1 !=[]&&(RuS.typeOf x).1==s) then some (.bool true) else none
theorem AdR {at_:List (List UInt8)} {k:Nat} (hk:k<at_.length) (h:(RuS.typeOf (at_[k]'hk)).2≠0):OW (Eo (at_.take k)) (RuS.typeOf (at_[k]'hk)).1 (.bool true)=Eo (at_.take (k+1)):=by
 have h1:=(SR _).1 h;funext s;unfold OW Eo;rw [aX hk,List.any_append];simp only [List.any_cons,List.any_nil,gQ];generalize RuS.typeOf at_[k]=t at*;by_cases a:s=t.1
 · subst a;simp [h1]
 · rw [aG a];have h2:(t.1==s)=false:=by simpa using fun e=>a e.symm
   simp [h2]
theorem Afs {at_:List (List UInt8)} {k:Nat} (hk:k<at_.length) (h:(RuS.typeOf (at_[k]'hk)).2=0):Eo (at_.take (k+1))=Eo (at_.take k):=by have h1:(RuS.typeOf (at_[k]'hk)).1=[]:=fP fun a=>(SR _).2 a h;funext s;unfold Eo;rw [aX hk,List.any_append];simp only [List.any_cons,List.any_nil,gQ];generalize RuS.typeOf at_[k]=t at*;simp [h1]
theorem AdS (at_:List (List UInt8)) (s:List UInt8):(Eo at_ s).getD (.bool false)=.bool (Eo at_ s).isSome:=by unfold Eo;split <;> rfl
theorem Ac1 {α:Type} (p q:α->Bool):∀l:List α,l.any (fun x=>p x||q x)=(l.any p||l.any q)
 | []=>rfl
 | x :: l=>by rw [List.any_cons,List.any_cons,List.any_cons,Ac1 p q l];cases p x <;> cases q x <;> simp
theorem Aft (at_:List (List UInt8)) (a:EnS.At):SeS.Gs at_ a=((at_.isEmpty||at_.contains [42])||(Eo at_ a.typ).isSome):=by
 unfold SeS.Gs Eo;rw [Ac1,fo];have e:at_.any (fun x=>x==[42])=at_.any (fun x=>[42]==x):=by congr 1;funext x;exact BEq.comm
 rw [e,Bool.or_assoc];congr 2;cases at_.any (fun x=>(RuS.typeOf x).1 !=[]&&(RuS.typeOf x).1==a.typ) <;> rfl
theorem AdT {P:EnS.At->Bool} {f:EnS.At->EnS.At} {l:List EnS.At} {k:Nat} (hk:k<l.length):((l.take (k+1)).filter P).map f=if P (l[k]'hk)=true then ((l.take k).filter P).map f++[f (l[k]'hk)] else ((l.take k).filter P).map f:=by
 cases h:P (l[k]'hk) with
 | true=>rw [Lq hk h,bP,aP rfl];rfl
 | false=>rw [NI hk h,aG (by simp)]
theorem Ao.lt {α:Type} {L:KLay α} {T:TypeId} {Ts:List TypeId} {C:Nat} {w:World} {B:Nat} {v:Value} {xs:List α} (h:Ao L T Ts C w B v xs) {k:Nat} (hk:v.ownBlock=some k):k<w.heap.size:=by obtain ⟨a,h1,_⟩:=h;exact (World.ownsRow.lt h1 k hk).2
theorem Ao.cells {α:Type} {L:KLay α} {T:TypeId} {Ts:List TypeId} {C:Nat} {w:World} {B:Nat} {v:Value} {xs:List α} (h:Ao L T Ts C w B v xs) {k:Nat} (hk:some k=v.ownBlock):∃cur,w.heap[k]?=some (.cells cur T (0,0)):=by
 obtain ⟨b,h1,_⟩:=h;rcases h1.2 with ⟨rfl,_⟩ | ⟨g,cap,cur,rfl,_,a,_⟩
 · cases hk
 · cases hk;exact ⟨cur,a⟩
theorem Ix {w:World} (g:Nat) (i:Nat) (v:Value):w.grownBy (w.setCell ⟨g,i,none⟩ v) (some g):=
 ⟨rfl,rfl,rfl,cH (World.size_setCell ..).symm,fun k _ a=>Below.heap_setCell w ⟨g,i,none⟩ v k (fun e=>a (by rw [e]))⟩
theorem Ao.far {α:Type} {L:KLay α} {T:TypeId} {Ts:List TypeId} {C:Nat} {w:World} {B:Nat} {v:Value} {xs:List α} (h:Ao L T Ts C w B v xs) {g:Nat} {d:TypeId} {cs:Array Value} (f:Whole w g d cs) (o:C<=g) (l:d ∉ Ts) (b:v.ownBlock≠some g) (i:Nat) (y:Value):Ao L T Ts C (w.setCell ⟨g,i,none⟩ y) B v xs:=by
 obtain ⟨n,h1,h2,h3⟩:=h;have hk:∀k,okT Ts C w k->k≠g:=fun k a e=>by
  subst e;rcases a with a | ⟨m,T2,fz,hc,c⟩
  · omega
  · unfold Whole at f;rw [f] at hc;cases hc;exact l c
 refine ⟨n,h1.kept (Ix g i y) (.inr b),h2,fun j u x hu hx=>?_⟩;exact L.keep (h3 j u x hu hx) (cH (World.size_setCell ..).symm) (fun k _ a=>Below.heap_setCell w ⟨g,i,none⟩ y k (hk k a)) (fun k _ a=>a.same (Below.heap_setCell w ⟨g,i,none⟩ y k (hk k a)))
theorem Aj.far {C:Nat} {w:World} {u:Value} {vs:List (List UInt8)} {Ts:List TypeId} (h:Aj (okT Ts C w) w u vs) {g:Nat} {c:TypeId} {cs:Array Value} (d:Whole w g c cs) (l:C<=g) (f:c ∉ Ts) (i:Nat) (y:Value):Aj (okT Ts C (w.setCell ⟨g,i,none⟩ y)) (w.setCell ⟨g,i,none⟩ y) u vs:=by
 have hk:∀k,okT Ts C w k->k≠g:=fun k a e=>by
  subst e;rcases a with a | ⟨j,T2,fz,hc,b⟩
  · omega
  · unfold Whole at d;rw [d] at hc;cases hc;exact f b
 exact Aj.keep h (cH (World.size_setCell ..).symm) (fun k _ a=>Below.heap_setCell w ⟨g,i,none⟩ y k (hk k a)) (fun k _ a=>a.same (Below.heap_setCell w ⟨g,i,none⟩ y k (hk k a)))
theorem AdU (w:World):(zeroValue 4).run prog w=.ok (.bool false) w:=by kernel_rfl
theorem Aah (n:Nat) (q:SeS.Rq) (rv:Value) (C:Nat) (name:List UInt8) (xs:List EnS.At) (u:Value) (w:World) (hC:C<=w.heap.size) (h:Fe [9] C w u xs) (hf:GW xs) (ht:∀x ∈ xs,x.typ.length<=1048576) (hq:EC n w rv q) (H3:q.attrs.length<=1048576/\∀s ∈ q.attrs,s.length<=1048576):
  Calls prog 18 #[.agg #[.string ⟨name.toArray⟩,u],rv] w (JW C name (SeS.DC q.attrs q.tonly ⟨name,xs⟩).attrs w):=by
 obtain ⟨a5,a6,aa,c5,c6,ca,rfl,_,E0⟩:=hq;obtain ⟨bs,sc,dr,x,at_,E,sz⟩:=q;simp only at E0 H3⊢;generalize x.any.length=XL at*;generalize x.parts.length=PL at*;generalize x.kind=kd at*;generalize x.attr=at0 at*;generalize x.value=vl at*;generalize x.first=fs at*;generalize x.last=ls at*;obtain ⟨D1,D0⟩:=H3;have F9:=hZ9 (fun k (hk:k<at_.length)=>D0 _ (aZ hk));obtain ⟨a,c,rfl,hc,H0⟩:=Ad.at h;have F8:=hZ9 H0;have F2:=hZ9 (fun k (hk:k<xs.length)=>ht _ (aZ hk));have H1:=hZ9 (show GW (SeS.DC at_ E ⟨name,xs⟩).attrs from ⟨by
   unfold SeS.DC;rw [b7];exact aY (bL _ _) hf.1,fun y hy=>by
   unfold SeS.DC at hy;obtain ⟨z,hz,rfl⟩:=bD.1 hy;have h2:=hf.2 z (bW.1 hz).1;split
   · exact ⟨aR _,fun v hv=>by cases hv⟩
   · exact h2⟩)
 have A4:Hid ((SeS.DC at_ E ⟨name,xs⟩).attrs=(xs.filter (SeS.Gs at_)).map (fun a=>if E=true then ⟨a.typ,[]⟩ else a)):=hZ9 rfl;have Z:=hZ9 (fun k (hk:k<xs.length)=>AdT (P:=SeS.Gs at_) (f:=fun a=>if E=true then ⟨a.typ,[]⟩ else a) hk);have I5:=hZ9 (fun k=>show (((xs.take k).filter (SeS.Gs at_)).map (fun a=>if E=true then ⟨a.typ,[]⟩ else a)).length<=1048576 from by
  rw [b7];exact aY (bL _ _) (aY (by rw [au];omega) hf.1))
 have F:=hZ9 (fun a=>Aft at_ a);have J2:xs.length<=1048576:=hf.1;obtain ⟨AL,A5⟩:∃b,(at_.isEmpty||at_.contains [42])=b:=⟨_,rfl⟩
 rw [A5] at F;have E8:Hid (∀k (hk:k<at_.length),∃g o,aa=some ⟨g,o,none⟩/\g<w.heap.size/\w.cell? ⟨g,o+k,none⟩=some (Ac (at_[k]'hk))):=hZ9 (fun k hk=>by
  obtain ⟨a',c',e,_,D3⟩:=E0;injection e with e1 _ _;rcases D3 with hn | ⟨g,o,ha,hg,hcell⟩
  · subst hn;simp at hk
  · exact ⟨g,o,e1.trans ha,hg,hcell k _ (aJ hk)⟩)
 have Y:=hZ9 (fun k (hk:k<at_.length) h=>AdR hk h);have X:=hZ9 (fun k (hk:k<at_.length) h=>Afs hk h);have B4:=fun W hb=>contains_c _ at_ [42] W (E0.call (B:=w.heap.size) hb (aA _)) D1;have C2:Hid (at_.isEmpty=decide (at_.length=0)):=hZ9 (by cases at_ <;> simp);obtain ⟨QL,A9⟩:∃n,at_.length=n:=⟨_,rfl⟩
 have I4:Hid (at_.take QL=at_):=hZ9 (by rw [<-A9];exact bE);have D7:=hZ9 A9;have C1:=hZ9 A5;rw [A9] at B4 D1;obtain ⟨L,hL⟩:∃n,xs.length=n:=⟨_,rfl⟩
 have HL:=hZ9 hL;have I7:Hid (xs.take L=xs):=hZ9 (by rw [<-hL];exact bE);rw [hL] at hc J2⊢;rw [A9];clear A9 A5 E0 hL h H0 hf ht D0;have H6:=Af w (.cells #[.string ⟨name.toArray⟩,.slice a L c] 52);have G6:=Whole.made w 52 #[.string ⟨name.toArray⟩,.slice a L c];have F5:=Af (w.alloc (.cells #[.string ⟨name.toArray⟩,.slice a L c] 52)) (.cells #[.string ⟨bs.toArray⟩,.int .i64 sc,.int .i64 dr,.int .i64 kd,.string ⟨at0.toArray⟩,.string ⟨vl.toArray⟩,.string ⟨fs.toArray⟩,.string ⟨ls.toArray⟩,.slice a5 XL c5,.slice a6 PL c6,.slice aa QL ca,.bool E,.int .i64 sz] 38);have E1:=Whole.made (w.alloc (.cells #[.string ⟨name.toArray⟩,.slice a L c] 52)) 38 #[.string ⟨bs.toArray⟩,.int .i64 sc,.int .i64 dr,.int .i64 kd,.string ⟨at0.toArray⟩,.string ⟨vl.toArray⟩,.string ⟨fs.toArray⟩,.string ⟨ls.toArray⟩,.slice a5 XL c5,.slice a6 PL c6,.slice aa QL ca,.bool E,.int .i64 sz];have s1:(w.alloc (.cells #[.string ⟨name.toArray⟩,.slice a L c] 52)).heap.size=w.heap.size+1:=by show (w.heap.push _).size=_;exact bh _
 rw [s1] at E1;have H:=Aa H6 F5;have S:=G6.call F5;clear H6 F5 G6;obtain ⟨W2,F0⟩:∃W,W=(w.alloc (.cells #[.string ⟨name.toArray⟩,.slice a L c] 52)).alloc (.cells #[.string ⟨bs.toArray⟩,.int .i64 sc,.int .i64 dr,.int .i64 kd,.string ⟨at0.toArray⟩,.string ⟨vl.toArray⟩,.string ⟨fs.toArray⟩,.string ⟨ls.toArray⟩,.slice a5 XL c5,.slice a6 PL c6,.slice aa QL ca,.bool E,.int .i64 sz] 38):=⟨_,rfl⟩
 have s2:W2.heap.size=w.heap.size+2:=by
  rw [F0];show (World.heap _ |>.push _).size=_
  rw [bh,s1]
 rw [<-F0] at E1 H S;have I:=Af W2 (.cells #[.string ⟨#[]⟩,.slice none 0 0] 52);have B7:=Whole.made W2 52 #[.string ⟨#[]⟩,.slice none 0 0];rw [s2] at B7;have D5:=Aa H I;have D8:=S.call I;have B5:=E1.call I;clear I S E1 H;obtain ⟨W3,C4⟩:∃W,W=W2.alloc (.cells #[.string ⟨#[]⟩,.slice none 0 0] 52):=⟨_,rfl⟩
 have s3:W3.heap.size=w.heap.size+3:=by
  rw [C4];show (World.heap _ |>.push _).size=_
  rw [bh,s2]
 rw [<-C4] at B7 D5 D8 B5;have B4:=B4 W3 D5;have J:=Dn.made prog 9 W3;have E5:=Af W3 (.map #[] 0);rw [s3] at J;have B9:=D5.trans (E5.mono D5.size);have A8:=D8.call E5;have B3:=B5.call E5;have C9:=B7.call E5;subst C4;subst F0;have I0:=@run_makeMap prog;have D4:=B5.cell 10;simp only [aI,aH,aK] at D4;go_enter func18,ntmps18;go_upto_region 1 with fail;generalize C4:(World.alloc _ (.cells #[.string ⟨#[]⟩,.slice none 0 0] 52))=W3 at*;clear C4;obtain ⟨B,hB⟩:∃n,W3.heap.size=n:=⟨_,rfl⟩
 have HB:=hZ9 (hB.symm.trans s3);rw [<-s3,hB] at J;clear s1 s2 s3 I0;have I0:=@run_makeMap prog;go_cut [5] (fun v wd=>v=.bool AL/\wd=W3)
 case first=>
  by_cases h0:QL=0
  · have HP:Hid (true=AL):=hZ9 (by rw [<-C1.out,C2.out,aL (D7.out.trans h0)];rfl);have d0:((QL:Int)==0)=true:=by simpa using h0
    clear C1 C2 B4 h0;go_wp2_with fail;go_meet;exact ⟨by (rw [<-HP.out]) <;> rfl,rfl⟩
  · have HP:Hid (at_.contains [42]=AL):=hZ9 (by rw [<-C1.out,C2.out,aC (fun e=>h0 (D7.out.symm.trans e))];rfl);have d0:((QL:Int)==0)=false:=by simpa using h0
    clear C1 C2 h0;generalize at_.contains [42]=CB at*;go_wp2_with fail;refine B4.mono ?_;rintro e w1 ⟨rfl,rfl⟩;go_wp2_with fail;go_meet;exact ⟨by (rw [<-HP.out]) <;> rfl,rfl⟩
 case rest=>
 obtain ⟨rfl,F7⟩:=hcut;subst F7;clear B4 C1 C2 D4;have D4:=B3.cell 10;simp only [aI,aH,aK] at D4;go_wp2_with fail;go_loopw [27] (fun iv wr=>∃k N:Nat,k<=QL/\iv=.int .i64 k/\N<=k/\Dn prog 9 wr B N (Eo (at_.take k))/\Whole wr w.heap.size 52 #[.string ⟨name.toArray⟩,.slice a L c]/\Whole wr (w.heap.size+1) 38 #[.string ⟨bs.toArray⟩,.int .i64 sc,.int .i64 dr,.int .i64 kd,.string ⟨at0.toArray⟩,.string ⟨vl.toArray⟩,.string ⟨fs.toArray⟩,.string ⟨ls.toArray⟩,.slice a5 XL c5,.slice a6 PL c6,.slice aa QL ca,.bool E,.int .i64 sz]/\Whole wr (w.heap.size+2) 52 #[.string ⟨#[]⟩,.slice none 0 0]/\Below w.heap.size w wr) (fun iv _=>QL - (intOf iv).toNat)
 case atStart=>exact ⟨0,0,aR _,rfl,aA _,J,A8,B3,C9,B9⟩
 case round=>
  obtain ⟨k,N,hk,rfl,M3,hm,hw,hr,hz,hb⟩:=hrel;clear J A8 B3 C9 B9;by_cases K3:k<QL
  · have m:k<at_.length:=by rw [D7.out];exact K3
    obtain ⟨g,o,rfl,hg,hcell⟩:=E8.out k m;have c0:=(hb.cell (p:=⟨g,o+k,none⟩) hg).trans hcell;have I6:=Y.out k m;have H7:=X.out k m;have L8:=F9.out k m;have J4:=Afr (at_[k]'m);clear hcell E8 Y X F9;generalize at_[k]=s at*;unfold Ac at c0;have B1:Calls prog 51 #[.string ⟨s.toArray⟩] wr (Ar s wr):=Gq ⟨s.toArray⟩ (by rw [Ez];omega) wr;unfold Ar at B1;have L2:(0:Int)<=(k:Int):=by omega
    have L0:(k:Int)<(QL:Int):=by omega
    have Y:=hZ9 I6;have X:=hZ9 H7;clear I6 H7;generalize RuS.typeOf s=T at*;obtain ⟨T1,T2⟩:=T;simp only at B1 J4;go_wp2_with fail;refine B1.mono ?_;rintro e w2 ⟨rfl,H⟩;have A2:=hm.kept (Ba H) (by simp);have S:=hw.call H;have D9:=hr.call H;have B0:=hz.call H;have F3:=hb.trans (H.mono hb.size);clear hm hw hr hz c0 B1;by_cases h0:T2=0
    · have d0:(T2 !=0)=false:=by simpa using h0
      have HW:=hZ9 (X.out h0);clear Y X h0;go_wp2_with fail;go_roundw
      case rel=>exact ⟨k+1,N,by omega,by go_num,by omega,by rw [HW.out];exact A2,S,D9,B0,F3⟩
      case measure=>simp [intOf];omega
    · have d0:(T2 !=0)=true:=by simpa using h0
      have HW:=hZ9 (Y.out h0);have M2:=A2.lt;have nw:=Dx A2 S;have nr:=Dx A2 D9;have nz:=Dx A2 B0;obtain ⟨w3,L4,J5,I,_⟩:=A2.store (t:=98) underlying9 underlying98 (by unfold maxLen;omega) T1 (by unfold maxLen;omega) (.bool true);have D8:=S.mapped I nw;have B5:=D9.mapped I nr;have B7:=B0.mapped I nz;have K1:=F3.grown I (by have:=F3.size;omega) (fun i e=>by have e:=aU e;have:=HB.out;omega);clear Y X h0 A2 S D9 B0 nw nr nz;go_wp2_with fail;go_roundw
      case rel=>exact ⟨k+1,N+1,by omega,by go_num,by omega,by rw [<-HW.out];exact J5,D8,B5,B7,K1⟩
      case measure=>simp [intOf];omega
  have J8:k=QL:=by omega
  subst J8;have J0:=hZ9 (show Eo (at_.take k)=Eo at_ by rw [I4.out]);rw [J0.out] at hm;clear E8 Y X F9 I4 D7;have H2:Hid (∀s,(Eo at_ s).getD (.bool false)=.bool (Eo at_ s).isSome):=hZ9 (AdS at_);generalize I9:Eo at_=WF at*;clear I9;have q0:=hw.cell 0;simp only [aI,aH] at q0;have hgo:=Af wr (.cells #[.string ⟨name.toArray⟩,.slice none 0 0] 52);have H4:=Whole.made wr 52 #[.string ⟨name.toArray⟩,.slice none 0 0];have A8:=hw.call hgo;have B3:=hr.call hgo;have C9:=hz.call hgo;have G9:=hm.kept (Ba hgo) (by simp);have B9:=hb.trans (hgo.mono hb.size);have M0:=hz.lt;have q1:=A8.cell 1;simp only [aI,aH,aK] at q1;clear hm hw hr hz hgo;go_wp2_with fail;generalize wr.heap.size=bo at*;go_loopw [47] (fun iv wr=>∃(j:Nat) (y:Value),j<=L/\iv=.int .i64 j/\Ao atK 56 [9] C wr w.heap.size y (((xs.take j).filter (SeS.Gs at_)).map (fun a=>if E=true then ⟨a.typ,[]⟩ else a))/\Whole wr bo 52 #[.string ⟨name.toArray⟩,y]/\Whole wr w.heap.size 52 #[.string ⟨name.toArray⟩,.slice a L c]/\Whole wr (w.heap.size+1) 38 #[.string ⟨bs.toArray⟩,.int .i64 sc,.int .i64 dr,.int .i64 kd,.string ⟨at0.toArray⟩,.string ⟨vl.toArray⟩,.string ⟨fs.toArray⟩,.string ⟨ls.toArray⟩,.slice a5 XL c5,.slice a6 PL c6,.slice aa k ca,.bool E,.int .i64 sz]/\Whole wr (w.heap.size+2) 52 #[.string ⟨#[]⟩,.slice none 0 0]/\Dn prog 9 wr B N WF/\Below w.heap.size w wr) (fun iv _=>L - (intOf iv).toNat)
  case atStart=>exact ⟨0,_,aR _,rfl,Ao.empty _ _ _ _ _ _,H4,A8,B3,C9,G9,B9⟩
  case round=>
   obtain ⟨j,y,hj,rfl,A,ho,hw,hr,hz,hm,hb⟩:=hrel;obtain ⟨ya,yc,rfl⟩:=A.form;clear B9 H4 A8 B3 C9 G9 q0 q1;have K9:=I5.out j;by_cases m:j<L
   · have E4:j<xs.length:=by rw [HL.out];exact m
     obtain ⟨g,o,rfl,hg,_,hra⟩:=F8.out j E4;obtain ⟨c0,a2,p2,c1,K5,hu⟩:=BH.partsT (BH.callE hra hg hb);have B1:=F2.out j E4;have D6:=hZ9 (Z.out j E4);have E9:=F.out (xs[j]'E4);clear hra F8 F2 Z F A4 H1;generalize xs[j]=z at*;obtain ⟨ty,vals⟩:=z;simp only at c0 c1 K5 hu B1 E9;generalize hQ:((xs.take j).filter (SeS.Gs at_)).map (fun a=>if E=true then ⟨a.typ,[]⟩ else a)=Q at*;clear hQ;have F:=hZ9 E9;clear E9;have L2:(0:Int)<=(j:Int):=by omega
     have L0:(j:Int)<(L:Int):=by omega
     generalize L7:vals.length=VL at*;have K:=Af wr (.cells #[.string ⟨ty.toArray⟩,.slice a2 VL p2] 56);have G:=Whole.made wr 56 #[.string ⟨ty.toArray⟩,.slice a2 VL p2];have C0:=hb.trans (K.mono hb.size);have r:=A.call K;have R:=ho.call K;have C7:=hw.call K;have B6:=hr.call K;have C5:=hz.call K;have A1:=hm.kept (Ba K) (by simp);have F1:=Aj.callT hu K;have K7:∀i,(Value.slice ya Q.length yc).ownBlock=some i->i<wr.heap.size:=fun i e=>A.lt e;have G8:=(A1.look (t:=98) underlying9 underlying98 (AdU _) ty (by unfold maxLen;omega)).2;rw [H2.out] at G8;generalize (WF ty).isSome=D at*;have d0:=G.cell 0;have d1:=G.cell 1;have G5:=B6.cell 11;simp only [aI,aH,aK] at d0 d1 G5;have L9:=G.lt;have L6:=ho.lt;clear A ho hw hr hz hm hu;go_upto_region 14 with fail;generalize K8:wr.alloc (.cells #[.string ⟨ty.toArray⟩,.slice a2 VL p2] 56)=wA at*;clear K8;generalize wr.heap.size=ab at*;go_cut [59] (fun v wd=>v=.bool (!(AL||D))/\wd=wA)
     case first=>
      cases AL with
      | true=>go_wp2_with fail;go_meet;exact ⟨by first | rfl | simp,rfl⟩
      | false=>go_wp2_with fail;go_meet;exact ⟨by first | rfl | simp,rfl⟩
     case rest=>
     obtain ⟨rfl,F7⟩:=hcut;subst F7;obtain ⟨w6,rfl⟩:∃x,x=wc:=⟨_,rfl⟩
     clear G8;obtain ⟨PX,E7⟩:∃b,(AL||D)=b:=⟨_,rfl⟩
     rw [E7] at F;rw [E7];clear E7;cases PX with
     | false=>
      have C8:=hZ9 (D6.out.trans (aG (by rw [F.out];simp)));clear D6 F;go_wp2_with fail;go_roundw
      case rel=>exact ⟨j+1,_,by omega,by go_num,by rw [C8.out];exact r,R,C7,B6,C5,A1,C0⟩
      case measure=>simp [intOf];omega
     | true=>
      have C8:=hZ9 (D6.out.trans (aP F.out));simp only at C8;clear D6 F;obtain ⟨V,hV⟩:∃V,(if E=true then [] else vals)=V:=⟨_,rfl⟩
      have F6:=hZ9 (C8.out.trans (show Q++[if E=true then (⟨ty,[]⟩:EnS.At) else ⟨ty,vals⟩]=Q++[⟨ty,V⟩] by rw [<-hV];cases E <;> rfl));clear C8;have HV:=hZ9 hV;clear hV;generalize A9:Q.length=QN at*
      go_upto_if 61 with fail
      go_cut [61] (fun v wd=>v=.bool E/\∃u,Whole wd ab 56 #[.string ⟨ty.toArray⟩,u]/\Aj (okT [9] C wd) wd u V/\Ao atK 56 [9] C wd w.heap.size (.slice ya QN yc) Q/\Whole wd bo 52 #[.string ⟨name.toArray⟩,.slice ya QN yc]/\Whole wd w.heap.size 52 #[.string ⟨name.toArray⟩,.slice (some ⟨g,o,none⟩) L c]/\Whole wd (w.heap.size+1) 38 #[.string ⟨bs.toArray⟩,.int .i64 sc,.int .i64 dr,.int .i64 kd,.string ⟨at0.toArray⟩,.string ⟨vl.toArray⟩,.string ⟨fs.toArray⟩,.string ⟨ls.toArray⟩,.slice a5 XL c5,.slice a6 PL c6,.slice aa k ca,.bool E,.int .i64 sz]/\Whole wd (w.heap.size+2) 52 #[.string ⟨#[]⟩,.slice none 0 0]/\Dn prog 9 wd B N WF/\Below w.heap.size w wd)
      case first=>
       clear F6;cases E with
       | false=>have F4:Hid (vals=V):=hZ9 (by rw [<-HV.out];rfl);clear HV;go_wp2_with fail;go_meet;exact ⟨rfl,_,G,by rw [<-F4.out];exact F1,r,R,C7,B6,C5,A1,C0⟩
       | true=>have F4:Hid ([]=V):=hZ9 (by rw [<-HV.out];rfl);clear HV;have t1:=G.thaw 1;have C6:=G.put 1 (.slice none 0 0);have G0:=Dx A1 G;have E6:=A1.kept (Ix ab 1 (.slice none 0 0)) (fun e=>G0 (aU e).symm);have U:=r.far G (by omega) (by decide) (fun e=>by have:=K7 _ e;omega) 1 (.slice none 0 0);have A0:=R.other (p:=⟨ab,1,none⟩) (by show bo≠ab;omega) (.slice none 0 0);have A3:=C7.other (p:=⟨ab,1,none⟩) (by show w.heap.size≠ab;omega) (.slice none 0 0);have A6:=B6.other (p:=⟨ab,1,none⟩) (by show w.heap.size+1≠ab;omega) (.slice none 0 0);have A7:=C5.other (p:=⟨ab,1,none⟩) (by show w.heap.size+2≠ab;omega) (.slice none 0 0);have B2:=C0.setCell (p:=⟨ab,1,none⟩) (by show w.heap.size<=ab;omega) (.slice none 0 0);simp only [aF,aQ,aN] at C6;clear F1 r R C7 C5 A1 C0;go_wp2_with fail;go_meet;exact ⟨rfl,_,C6,by rw [<-F4.out];exact Ad.nil _ _,U,A0,A3,A6,A7,E6,B2⟩
      case rest=>
      obtain ⟨rfl,u,C6,H9,U,A0,A3,A6,A7,E6,B2⟩:=hcut;obtain ⟨w7,rfl⟩:∃x,x=wc:=⟨_,rfl⟩
      clear HV F1 r R C7 B6 C5 A1 C0 d0 d1 G5 G;obtain ⟨a3,p3,rfl,_⟩:=Ad.form H9;generalize M1:V.length=VN at*;have e1:=A0.cell 1;have f0:=C6.cell 0;have f1:=C6.cell 1;simp only [aI,aH,aK] at e1 f0 f1;have O:=Af w7 (.cells #[.string ⟨ty.toArray⟩,.slice a3 VN p3] 56);have G7:=Whole.made w7 56 #[.string ⟨ty.toArray⟩,.slice a3 VN p3];have I3:=B2.trans (O.mono B2.size);have l:=U.call O;have J9:=Aj.callT H9 O;have b0:=G7.cell 0;have b1:=G7.cell 1;have G2:=I3.size;simp only [aI,aH,aK] at b0 b1;obtain ⟨i0,hi,J6,K0,B0⟩:=info_parts Ox;go_wp2_with (at_builtin;refine MS atK 56 50 [9] (by decide) underlying50 hi J6 K0 B0 (by rfl) (by rfl) _ _ (by rfl) w.heap.size hC _ Q (by rfl) l w7.heap.size (by rfl) ⟨ty,V⟩ _ b0 b1 J9 (by omega) G2 ?_)
      intro v8 w8 d E2 B8;have C3:=(A0.call O).grown l (by decide) B8;have K6:=(A3.call O).grown l (by decide) B8;have J7:=(A6.call O).grown l (by decide) B8;have M:=(A7.call O).grown l (by decide) B8;have H8:=E6.kept (Ba O) (by simp);have I2:=H8.kept B8 (fun e=>by obtain ⟨cur,hc⟩:=l.cells e;exact Dx H8 hc rfl);rw [<-F6.out] at d;obtain ⟨yb,yd,rfl⟩:=d.form;generalize G3:(((xs.take (j+1)).filter (SeS.Gs at_)).map (fun a=>if E=true then ⟨a.typ,[]⟩ else a))=Q2 at*;have I8:=hZ9 G3;clear G3 F6;generalize L5:Q2.length=N1 at*;have tq:=C3.thaw 1;have tz:=C3.cell 1;simp only [aI,aH,aK] at tz;have H5:=C3.put 1 (.slice yb N1 yd);have D2:=d.other C3 (by omega) (by decide) (by decide) 1 (.slice yb N1 yd);have K2:=K6.other (p:=⟨bo,1,none⟩) (by show w.heap.size≠bo;omega) (.slice yb N1 yd);have L1:=J7.other (p:=⟨bo,1,none⟩) (by show w.heap.size+1≠bo;omega) (.slice yb N1 yd);have K4:=M.other (p:=⟨bo,1,none⟩) (by show w.heap.size+2≠bo;omega) (.slice yb N1 yd);have G1:=Dx I2 C3;have L3:=I2.kept (Ix bo 1 (.slice yb N1 yd)) (fun e=>G1 (aU e).symm);have E3:=(I3.trans E2).setCell (p:=⟨bo,1,none⟩) (by show w.heap.size<=bo;omega) (.slice yb N1 yd);simp only [aF,aQ,aN] at H5;go_wp2_with fail;go_roundw
      case rel=>exact ⟨j+1,_,by omega,by go_num,by rw [I8.out];exact D2,H5,K2,L1,K4,L3,E3⟩
      case measure=>simp [intOf];omega
   · have J3:j=L:=by omega
     subst J3;have I1:=hZ9 (show ((xs.take j).filter (SeS.Gs at_)).map (fun a=>if E=true then ⟨a.typ,[]⟩ else a)=(SeS.DC at_ E ⟨name,xs⟩).attrs by rw [I7.out,A4.out]);rw [I1.out] at A ho;clear I1 A4 F8 F2 Z F I7 H2 hm K9 I5;generalize (SeS.DC at_ E ⟨name,xs⟩).attrs=SA at*;have G4:=Ur C name SA _ wr (aY hC hb.size) A.attrsE H1.out;unfold JW at G4⊢;generalize J1:SA.length=SN at*;have o0:=ho.cell 0;have o1:=ho.cell 1;simp only [aI,aH,aK] at o0 o1;go_wp2_with fail;refine G4.mono ?_;rintro e w8 ⟨u8,rfl,d,E2⟩;have M:=hz.call E2;have B2:=hb.trans (E2.mono hb.size);obtain ⟨yb,yd,rfl⟩:=d.form;have d:=d.mono hb.size;rw [J1] at*;have s0:=M.thaw 0;have s1:=M.thaw 1;have t0:=M.cell 0;have t1:=M.cell 1;simp only [aI,aH,aK] at t0 t1;have hA:=M.put 0 (.string ⟨name.toArray⟩);have R:=d.other M (by omega) (by decide) (by decide) 0 (.string ⟨name.toArray⟩);simp only [aF,aN] at hA;have hB:=hA.put 1 (.slice yb SN yd);have A0:=R.other hA (by omega) (by decide) (by decide) 1 (.slice yb SN yd);simp only [aF,aQ,aN] at hB;have E3:=(B2.setCell (p:=⟨w.heap.size+2,0,none⟩) (by show w.heap.size<=w.heap.size+2;omega) (.string ⟨name.toArray⟩)).setCell (p:=⟨w.heap.size+2,1,none⟩) (by show w.heap.size<=w.heap.size+2;omega) (.slice yb SN yd);have y0:=hB.cell 0;have y1:=hB.cell 1;simp only [aI,aH,aK] at y0 y1;go_wp2_with fail
     (try simp only [Exit.inBlock,Exit.then])
     refine bodyPost_ret (v:=.agg #[.string ⟨name.toArray⟩,.slice yb SN yd]) ?_ rfl ⟨_,rfl,A0,E3⟩;clear hA R hB A0 E3 A ho hw hr hz hb;generalize (w8.setCell ⟨w.heap.size+2,0,none⟩ (.string ⟨name.toArray⟩)).setCell ⟨w.heap.size+2,1,none⟩ (.slice yb SN yd)=wf at*;rw [BM rfl];go_simp
end Go.Proofs.YtgngjfjaelgaeaaGreatDoor
