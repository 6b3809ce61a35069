/- The walks of the digits and of the special bytes: the program's 'digit', the document's 'hex' and 'special'. Conditions: as stated. -/
import Derived.Shelf.SlSortCmp.InsertionK
import Derived.Test.YtgngjfjaelgaeaaGreatDoorZRda
set_option maxRecDepth 1000000
set_option maxHeartbeats 8000000
namespace Go.Proofs.YtgngjfjaelgaeaaGreatDoor
open Go.Proofs.Tryz
variable {l:iK} {C b:Nat} {c:UInt8} {w w':World}
section
open Go.RowKit
namespace RdS
def Gs(c:UInt8):Int:=match hexOf c with
 |some n=>(n:Int)
 |none=>-1
theorem AaR:∀n:Fin 256,Lib.indexByte hexL (RuS.lowC (UInt8.ofNat n.val))=Gs (UInt8.ofNat n.val):=by decide+kernel
theorem AeM(c:UInt8):Lib.indexByte hexL (RuS.lowC c)=Gs c:=by
 have h:=AaR ⟨c.toNat,c.toNat_lt⟩
 simpa using h
theorem Jh(c:UInt8):(hexOf c=none/\Gs c=-1)\/∃n:Nat,hexOf c=some n/\Gs c=(n:Int)/\n<16:=by
 unfold Gs hexOf;split
 ·exact .inr ⟨_,rfl,rfl,by omega⟩
 ·split
  ·exact .inr ⟨_,rfl,rfl,by omega⟩
  ·split
   ·exact .inr ⟨_,rfl,rfl,by omega⟩
   ·exact .inl ⟨rfl,rfl⟩
end RdS
theorem digit_c(c:UInt8)(w:World):Calls prog 195 #[.int .u8 (c.toNat:Int)] w λe w'=>e=.returned (.int .i64 (RdS.Gs c))/\Below w.heap.size w w':=by
 have a:=λw=>lower_c ⟨#[c]⟩ (by show 1<=_;decide) w;unfold Cb at a;have i:(RuS.lower (⟨#[c]⟩:ByteArray).data.toList)=[RuS.lowC c]:=rfl;rw[i] at a;have g:=λw=>strings_IndexByte ⟨#[48,49,50,51,52,53,54,55,56,57,97,98,99,100,101,102]⟩ ((RuS.lowC c).toNat:Int) w;have k:(⟨#[48,49,50,51,52,53,54,55,56,57,97,98,99,100,101,102]⟩:ByteArray).data.toList=RdS.hexL:=rfl;have h:(((RuS.lowC c).toNat:Int).toNat.toUInt8)=RuS.lowC c:=by rw[Int.toNat_natCast];exact dB
 rw[k,h,RdS.AeM] at g;clear k h i;have m:(convert 157 9 (.slice (some ⟨w.heap.size,0,none⟩) 1 1)).run prog (w.alloc (.cells #[.int .u8 (c.toNat:Int)] 5))=.ok (.string ⟨#[c]⟩) (w.alloc (.cells #[.int .u8 (c.toNat:Int)] 5)):=by
  refine run_convert_bytes_back (w.alloc (.cells #[.int .u8 (c.toNat:Int)] 5)) _ _ 5 ⟨w.heap.size,0,none⟩ 1 [c] underlying157 underlying5 underlying9 λj o=>?_;have:j=0:=by simp at o;exact o
  subst this;have f:(⟨w.heap.size,0,none⟩:Addr).add 0=⟨w.heap.size,0,none⟩:=by unfold Addr.add;split<;>simp_all
  rw[f];simp[go_sem]
 generalize RuS.lowC c=d at*;generalize RdS.Gs c=r at*;go_enter func195,ntmps195;go_wp2_with fail;refine(a _).mono ?_;rintro e w1 ⟨rfl,n⟩;go_wp2_with fail;refine(g _).mono ?_;rintro e w2 ⟨rfl,rfl⟩;go_wp2_with fail;go_ret;exact⟨rfl,(Af w _).trans (n.mono (by simp))⟩
theorem NS(c:UInt8)(w:World):Calls prog 149 #[.int .u8 (c.toNat:Int)] w λe w'=>e=.returned (.bool (RdS.AE c))/\w=w':=by
 cases f:RdS.AE c with
 |true=>
  have g:c∈RdS.EI:=cg.1 f;simp only[RdS.EI,ay,dX,fZ] at g;clear f;rcases g with rfl|rfl|rfl|rfl|rfl|rfl|rfl
  all_goals
   go_enter func149,ntmps149;go_wp2_with fail;go_ret;exact⟨rfl,rfl⟩
 |false=>have a:∀d,RdS.AE d=true->c≠d:=λd hd=>RdS.Gu hd f;have f1:((c.toNat:Int)==44)=false:=aV.2 (λh=>a 44 (by decide) (Dn rfl h));have f2:((c.toNat:Int)==43)=false:=aV.2 (λh=>a 43 (by decide) (Dn rfl h));have i:((c.toNat:Int)==34)=false:=aV.2 (λh=>a 34 (by decide) (Dn rfl h));have f4:((c.toNat:Int)==92)=false:=aV.2 (λh=>a 92 (by decide) (Dn rfl h));have f5:((c.toNat:Int)==60)=false:=aV.2 (λh=>a 60 (by decide) (Dn rfl h));have f6:((c.toNat:Int)==62)=false:=aV.2 (λh=>a 62 (by decide) (Dn rfl h));have f7:((c.toNat:Int)==59)=false:=aV.2 (λh=>a 59 (by decide) (Dn rfl h));clear a f;go_enter func149,ntmps149;go_wp2_with fail;go_ret;exact⟨rfl,rfl⟩
theorem AaS(c:UInt8)(w:World):Calls prog 199 #[.int .u8 (c.toNat:Int)] w λe w'=>e=.returned (.int .i64 (RdS.Gs c))/\w=w':=by
 have d:=c.toNat_lt;by_cases h1:48<=c.toNat/\c.toNat<=57
 ·have HR:Hid (RdS.Gs c=(c.toNat:Int)-48):=hZ9 (by unfold RdS.Gs RdS.hexOf;rw[aJ h1];show ((c.toNat-48:Nat):Int)=_;omega);obtain⟨h1,h2⟩:=h1;have g1:(48:Int)<=(c.toNat:Int):=by omega
  have g2:(c.toNat:Int)<=57:=by omega
  go_enter func199,ntmps199;go_wp2_with fail;go_ret;exact⟨by rw[HR.out];rfl,rfl⟩
 by_cases h2:97<=c.toNat/\c.toNat<=102
 ·have HR:Hid (RdS.Gs c=(c.toNat:Int)-97+10):=hZ9 (by unfold RdS.Gs RdS.hexOf;rw[aG h1,aJ h2];show ((c.toNat-97+10:Nat):Int)=_;omega);obtain⟨h3,h4⟩:=h2;have g1:decide ((c.toNat:Int)<=57)=false:=aB (by omega);have g0:(48:Int)<=(c.toNat:Int):=by omega
  have g2:(97:Int)<=(c.toNat:Int):=by omega
  have g3:(c.toNat:Int)<=102:=by omega
  clear h1;go_enter func199,ntmps199;go_wp2_with fail;go_ret;exact⟨by rw[HR.out];rfl,rfl⟩
 by_cases h3:65<=c.toNat/\c.toNat<=70
 ·have HR:Hid (RdS.Gs c=(c.toNat:Int)-65+10):=hZ9 (by unfold RdS.Gs RdS.hexOf;rw[aG h1,aG h2,aJ h3];show ((c.toNat-65+10:Nat):Int)=_;omega);obtain⟨h4,h5⟩:=h3;have g1:decide ((c.toNat:Int)<=57)=false:=aB (by omega);have g0:(48:Int)<=(c.toNat:Int):=by omega
  have g2:decide ((97:Int)<=(c.toNat:Int))=false:=aB (by omega);have g3:(65:Int)<=(c.toNat:Int):=by omega
  have g4:(c.toNat:Int)<=70:=by omega
  clear h1 h2;go_enter func199,ntmps199;go_wp2_with fail;go_ret;exact⟨by rw[HR.out];rfl,rfl⟩
 have HR:Hid (RdS.Gs c=-1):=hZ9 (by unfold RdS.Gs RdS.hexOf;rw[aG h1,aG h2,aG h3]);have hc:c.toNat<48\/(57<c.toNat/\c.toNat<65)\/(70<c.toNat/\c.toNat<97)\/102<c.toNat:=by omega
 clear h1 h2 h3;rcases hc with h|⟨h,a⟩|⟨h,a⟩|h
 all_goals
  first|have g1:(48:Int)<=(c.toNat:Int):=by omega|have g1:decide ((48:Int)<=(c.toNat:Int))=false:=aB (by omega)
  first|have g2:(c.toNat:Int)<=57:=by omega|have g2:decide ((c.toNat:Int)<=57)=false:=aB (by omega)
  first|have g3:(97:Int)<=(c.toNat:Int):=by omega|have g3:decide ((97:Int)<=(c.toNat:Int))=false:=aB (by omega)
  first|have g4:(c.toNat:Int)<=102:=by omega|have g4:decide ((c.toNat:Int)<=102)=false:=aB (by omega)
  first|have g5:(65:Int)<=(c.toNat:Int):=by omega|have g5:decide ((65:Int)<=(c.toNat:Int))=false:=aB (by omega)
  first|have g6:(c.toNat:Int)<=70:=by omega|have g6:decide ((c.toNat:Int)<=70)=false:=aB (by omega)
  go_enter func199,ntmps199;go_wp2_with fail;go_ret;exact⟨by rw[HR.out];rfl,rfl⟩
end
section
open Go.RowKit
attribute [local go_sem ↓] Go.wp_at_zero Go.wp_at_succ
namespace RdS
def UO:iK:=[44,43,34,92,60,62,59,35,61,32]
theorem Adq:∀n:Fin 256,decide (0<=Lib.indexByte UO (UInt8.ofNat n.val))=Em (UInt8.ofNat n.val):=by decide+kernel
theorem Yl(c:UInt8):decide (0<=Lib.indexByte UO c)=Em c:=by
 have h:=Adq ⟨c.toNat,c.toNat_lt⟩
 rwa [show UInt8.ofNat c.toNat=c from dB] at h
theorem Md{last:Bool}(h1:c≠32)(h2:c≠35):Dq true last c=Dq false last c:=by
 have a:(c==32)=false:=by simpa using h1
 have d:(c==35)=false:=by simpa using h2
 unfold Dq;rw[a,d];simp
theorem Ym{r:iK}(h1:c≠32)(h2:c≠35):readS (c :: r)=AG false (c :: r):=by
 unfold readS
 match r with
 |[]=>simp[AG,Md h1 h2]
 |[d]=>simp[AG,Md h1 h2]
 |d :: e :: r=>simp[AG,Md h1 h2]
theorem Adr{r:iK}(h:c=32\/c=35):readS (c :: r)=none:=by
 unfold readS;refine JW ?_ ?_
 ·rcases h with rfl|rfl<;>decide
 ·rcases h with rfl|rfl<;>simp[Dq]
end RdS
def Cc(l:iK)(w:World)(e:Ending)(w':World):Prop:=e=.returned (.tuple #[.string ⟨((RdS.readS l).getD []).toArray⟩,.bool (RdS.readS l).isSome])/\Below w.heap.size w w'
theorem Cc.none{l:iK}{w w':World}(h:RdS.readS l=none)(hb:Below w.heap.size w w'):Cc l w (.returned (.tuple #[.string ⟨#[]⟩,false])) w':=by unfold Cc;rw[h];exact⟨rfl,hb⟩
def Zo(l:iK)(w:World)(i:Value)(wr:World):Prop:=
 ∃(k:Nat) (acc:iK),k<=l.length/\i=.int .i64 k/\Bld w.heap.size w.heap.size acc wr/\acc.length<=k/\RdS.readS l=(RdS.AG false (l.drop k)).map (acc++·)/\Below w.heap.size w wr
theorem Ahh{x y:Nat}(hx:x<16)(d:y<16):bits .or .i64 ((x:Int)*16) (y:Int)=((16*x+y:Nat):Int):=by
 have h:∀a:Fin 16,∀b:Fin 16,bits .or .i64 ((a.val:Int)*16) (b.val:Int)=((16*a.val+b.val:Nat):Int):=by decide+kernel
 exact h ⟨x,hx⟩ ⟨y,d⟩
theorem Zp(l:iK)(hl:l.length<=1000000)(w:World):Calls prog 169 #[l] w (Cc l w):=by
 match l,hl with
 |[],hl=>have Y:=Builder_String_any w.heap.size w.heap.size [] (w.alloc (.cells #[.pointer none,.slice none 0 0] 159)) (by first|exact Bld.fresh w|simpa[Bld,Aj,Lib.byteCells] using Bld.fresh w) (by simp);go_enter func169,ntmps169;go_wp2_with fail;refine wp_loop_rounds 1 ?_;rw[rounds_succ];go_wp2_with fail;refine Y.mono ?_;rintro e w1 ⟨rfl,a⟩;go_wp2_with fail;go_ret2;exact⟨rfl,(Af w _).trans a⟩
 |c0 :: r0,hl=>
  have M:=hZ9 (λ(h:c0=32\/c0=35)=>RdS.Adr (r:=r0) h);have A6:=hZ9 (λ(h1:c0≠32) (h2:c0≠35)=>RdS.Ym (r:=r0) h1 h2);have h0:0<(c0 :: r0).length:=by simp
  have C7:∀h,(⟨(c0 :: r0).toArray⟩:ByteArray)[0]'h=c0:=λ_=>rfl;have C2:(c0 :: r0).isEmpty=false:=rfl;generalize c0 :: r0=l at*;by_cases E:c0=32
  ·have W:((c0.toNat:Int)==32)=true:=by rw[E];rfl
   have HC:=hZ9 E;clear E;go_enter func169,ntmps169;go_wp2_with fail;go_ret2;exact Cc.none (M.out (.inl HC.out)) (Af w _)
  ·have S:=hZ9 E;have W:((c0.toNat:Int)==32)=false:=aV.2 (λh=>S.out (Dn rfl h));clear E;by_cases O:c0=35
   ·have B9:((c0.toNat:Int)==35)=true:=by rw[O];rfl
    have HC:=hZ9 O;clear O;go_enter func169,ntmps169;go_wp2_with fail;go_ret2;exact Cc.none (M.out (.inr HC.out)) (Af w _)
   ·have P:=hZ9 O;have B9:((c0.toNat:Int)==35)=false:=aV.2 (λh=>P.out (Dn rfl h));have B6:=hZ9 (A6.out S.out P.out);clear O A6 M;go_enter func169,ntmps169;go_wp2_with fail;go_loopw [5] (λi wr=>Zo l w i wr) (λi _=>l.length-(intOf i).toNat)
    case atStart=>exact⟨0,[],aR _,rfl,Bld.fresh w,aR _,by rw[B6.out,bI];simp,Af w _⟩
    case round=>
     obtain⟨k,acc,hk,rfl,t,C5,B2,hb⟩:=hrel;have HK:=hZ9 hk;have Z:=hZ9 B2;have hsz:=hb.size;clear B2 hk;by_cases B7:k<l.length
     ·have Q:=hZ9 (av B7);generalize A7:l[k]=c at*;have D2:∀h,(⟨l.toArray⟩:ByteArray)[k]'h=c:=λ_=>A7;clear A7;have n:Hid (RdS.AG false (l.drop k)=none->RdS.readS l=none):=hZ9 (λh=>by rw[Z.out,h];rfl);have u:Hid (∀(k2:Nat) (x:UInt8) (i:Value) (w2:World),k2<=l.length->k<k2->i=.int .i64 k2->RdS.AG false (l.drop k)=(RdS.AG false (l.drop k2)).map (x :: ·)->Gp w.heap.size w.heap.size (acc++[x]) w2->Below w.heap.size w w2->Zo l w i w2):=
       hZ9 (λk2 x i w2 h1 h2 hi h3 h4 h5=>⟨k2,acc++[x],h1,hi,h4.bld,by simp;omega,by rw[Z.out,h3,Option.map_map];congr 1;funext y;simp,h5⟩)
      by_cases h92:c=92
      ·have o:=hZ9 h92;have B8:((c.toNat:Int) !=92)=false:=by rw[h92];rfl
       clear h92;by_cases B4:k+1<l.length
       ·have G:=hZ9 (av B4);generalize A8:l[k+1]=d at*;have C8:∀h,(⟨l.toArray⟩:ByteArray)[k+1]'h=d:=λ_=>A8;clear A8;have A3:(k:Int)+1<(l.length:Int):=by omega
        have g:=λw=>strings_IndexByte ⟨#[44,43,34,92,60,62,59,35,61,32]⟩ (d.toNat:Int) w;have N:(⟨#[44,43,34,92,60,62,59,35,61,32]⟩:ByteArray).data.toList=RdS.UO:=rfl;have F:((d.toNat:Int).toNat.toUInt8)=d:=by rw[Int.toNat_natCast];exact dB
        rw[N,F] at g;clear N F;have H:=hZ9 (RdS.Yl d);generalize Lib.indexByte RdS.UO d=ix at*;replace g:=λw=>(g w).mono (λe w' (h:_/\_)=>(⟨h.1,h.2.symm⟩:e=.returned ix/\w=w'));by_cases p:0<=ix
        ·have B:Hid (RdS.Em d=true):=hZ9 (by rw[<-H.out,aI p]);have T:Hid (RdS.AG false (l.drop k)=(RdS.AG false (l.drop (k+2))).map (d :: ·)):=hZ9 (by rw[Q.out,o.out,G.out,RdS.EL _ B.out]);go_wp2_with fail;refine(g _).mono ?_;rintro e w0 ⟨rfl,rfl⟩;go_wp2_with fail;refine(Ij w.heap.size w.heap.size acc d _ t (by omega) (by omega)).mono ?_;rintro e w1 ⟨rfl,hu,a⟩;go_wp2_with fail;go_roundw
         case rel=>exact u.out (k+2) d _ _ (by omega) (by omega) (by go_num) T.out hu (hb.trans a)
         case measure=>simp[intOf];omega
        ·have B:Hid (RdS.Em d=false):=hZ9 (by rw[<-H.out,aB p]);have V:decide (0<=ix)=false:=aB p;clear p;by_cases C0:k+2<l.length
         ·have X:=hZ9 (av C0);generalize B1:l[k+2]=f at*;have D1:∀h,(⟨l.toArray⟩:ByteArray)[k+2]'h=f:=λ_=>B1;clear B1;have R:(k:Int)+2<(l.length:Int):=by omega
          have q:=λw=>digit_c d w;have v:=λw=>digit_c f w;rcases RdS.Jh d with⟨hn,hv⟩|⟨x,hx,A0,A4⟩
          ·rw[hv] at q;have s:Hid (RdS.readS l=none):=hZ9 (n.out (by rw[Q.out,o.out,G.out,show k+1+1=k+2 from rfl,X.out,RdS.Df _ B.out (.inl hn)]));clear hn hv v;go_wp2_with fail;refine(g _).mono ?_;rintro e w0 ⟨rfl,rfl⟩;go_wp2_with fail;refine(q _).mono ?_;rintro e w1 ⟨rfl,a⟩;go_wp2_with fail;go_ret2;exact Cc.none s.out (hb.trans (a.mono (by omega)))
          ·rcases RdS.Jh f with⟨hn,hv⟩|⟨y,hy,B5,A2⟩
           ·rw[A0] at q;rw[hv] at v;have s:Hid (RdS.readS l=none):=hZ9 (n.out (by rw[Q.out,o.out,G.out,show k+1+1=k+2 from rfl,X.out,RdS.Df _ B.out (.inr hn)]));clear hn hv hx A0;go_wp2_with fail;refine(g _).mono ?_;rintro e w0 ⟨rfl,rfl⟩;go_wp2_with fail;refine(q _).mono ?_;rintro e w1 ⟨rfl,a⟩;go_wp2_with fail;refine(v _).mono ?_;rintro e w2 ⟨rfl,J⟩;go_wp2_with fail;go_ret2;exact Cc.none s.out (hb.trans ((Aa a J).mono (by omega)))
           ·have T:Hid (RdS.AG false (l.drop k)=(RdS.AG false (l.drop (k+3))).map (UInt8.ofNat (16*x+y) :: ·)):=hZ9 (by
             rw[Q.out,o.out,G.out,show k+1+1=k+2 from rfl,X.out,RdS.EZ _ B.out hx hy])
            have A9:=Ahh A4 A2;have HT:Hid (((UInt8.ofNat (16*x+y)).toNat:Int)=((16*x+y:Nat):Int)):=hZ9 (by rw[bz];omega);obtain⟨z,U⟩:∃z:UInt8,z=UInt8.ofNat (16*x+y):=⟨_,rfl⟩
            rw[<-U] at T HT;have C4:bits .or .i64 ((x:Int)*16) (y:Int)=(z.toNat:Int):=by rw[A9,HT.out]
            have B3:=z.toNat_lt;clear hx hy A9 U HT;rw[A0] at q;rw[B5] at v;go_wp2_with fail;refine(g _).mono ?_;rintro e w0 ⟨rfl,rfl⟩;go_wp2_with fail;refine(q _).mono ?_;rintro e w1 ⟨rfl,a⟩;go_wp2_with fail;refine(v _).mono ?_;rintro e w2 ⟨rfl,J⟩;go_wp2_with fail;have I:=((t.call a).call J).drew;have A:Below w.heap.size w w2.drew:=(hb.trans ((Aa a J).mono (by omega))).drew;clear t a J hb;have C3:=A.size;have C6:IntKind.u8.wrap (z.toNat:Int)=(z.toNat:Int):=by rw[IntKind.wrap_u8];omega
            have D0:IntKind.i64.wrap ((x:Int)*16)=(x:Int)*16:=by rw[IntKind.wrap_i64];omega
            have j1:(0:Int)<=(k:Int)+1:=by omega
            have j2:(0:Int)<=(k:Int)+2:=by omega
            have t1:((k:Int)+1).toNat=k+1:=by omega
            have t2:((k:Int)+2).toNat=k+2:=by omega
            have D3:IntKind.i64.wrap ((k:Int)+1)=(k:Int)+1:=by rw[IntKind.wrap_i64];omega
            have C9:IntKind.i64.wrap ((k:Int)+2)=(k:Int)+2:=by rw[IntKind.wrap_i64];omega
            clear q v g
            go_region_held3 (λ_=>True) (trivial)
             (first
               |(go_at_call 195;(with_reducible refine(digit_c _ _).mono ?_);rintro e w1 ⟨rfl,a⟩;replace I:=I.call a;replace A:=A.trans (a.mono A.size))
               |(go_at_call 143;(with_reducible refine(Ij w.heap.size w.heap.size acc z _ I (by omega) A.size).mono ?_);rintro e w3 ⟨rfl,hu,C1⟩))
            all_goals go_wp2_with fail
            all_goals go_roundw
            all_goals first|(simp[intOf];omega)|exact u.out (k+3) z _ _ (by omega) (by omega) (by go_num) T.out hu (A.trans C1)
         ·have R:decide ((k:Int)+2<(l.length:Int))=false:=aB (by omega);have m:l.drop (k+1+1)=[]:=bO (by omega);have s:Hid (RdS.readS l=none):=hZ9 (n.out (by rw[Q.out,o.out,G.out,m,RdS.FV _ B.out]));clear m;go_wp2_with fail;refine(g _).mono ?_;rintro e w0 ⟨rfl,rfl⟩;go_wp2_with fail;go_ret2;exact Cc.none s.out hb
       ·have A3:decide ((k:Int)+1<(l.length:Int))=false:=aB (by omega);have R:decide ((k:Int)+2<(l.length:Int))=false:=aB (by omega);have m:l.drop (k+1)=[]:=bO (by omega);have s:Hid (RdS.readS l=none):=hZ9 (n.out (by rw[Q.out,o.out,m,RdS.IC]));clear m;go_wp2_with fail;go_ret2;exact Cc.none s.out hb
      ·have o:=hZ9 h92;have B8:((c.toNat:Int) !=92)=true:=by rw[fR];exact λh=>o.out (Dn rfl h)
       clear h92;have A1:(l.drop (k+1)).isEmpty=decide (k+1=l.length):=by rw[bR,dD,ej,az];omega
       have L:Hid (RdS.Dq false (decide (k+1=l.length)) c=true->RdS.readS l=none):=hZ9 (λh=>n.out (by rw[Q.out];exact RdS.JW o.out (by rw[A1];exact h)));have B0:Hid (RdS.Dq false (decide (k+1=l.length)) c=false->RdS.AG false (l.drop k)=(RdS.AG false (l.drop (k+1))).map (c :: ·)):=hZ9 (λh=>by rw[Q.out];exact RdS.Ir o.out (by rw[A1];exact h));have el:((k:Int)==(l.length:Int)-1)=decide (k+1=l.length):=by rw[bR,ag,az];omega
       have K:Hid (∀last,RdS.Dq false last c=(RdS.AE c||c==0||(c==32&&last))):=hZ9 (λlast=>by unfold RdS.Dq;simp);clear A1;generalize decide (k+1=l.length)=ql at*;by_cases U:c=0
       ·have ez:((c.toNat:Int)==0)=true:=by rw[U];rfl
        have s:Hid (RdS.readS l=none):=hZ9 (L.out (by rw[K.out,U];simp));clear U;go_wp2_with fail;go_ret2;exact Cc.none s.out hb
       ·have HZ:=hZ9 U;have ez:((c.toNat:Int)==0)=false:=aV.2 (λh=>HZ.out (Dn rfl h));clear U;have g:=λw=>strings_IndexByte ⟨#[44,43,34,92,60,62,59]⟩ (c.toNat:Int) w;have N:(⟨#[44,43,34,92,60,62,59]⟩:ByteArray).data.toList=RdS.EI:=rfl;have F:((c.toNat:Int).toNat.toUInt8)=c:=by rw[Int.toNat_natCast];exact dB
        rw[N,F] at g;clear N F;have H:=hZ9 (MH c);generalize Lib.indexByte RdS.EI c=ix at*;replace g:=λw=>(g w).mono (λe w' (h:_/\_)=>(⟨h.1,h.2.symm⟩:e=.returned ix/\w=w'));by_cases p:0<=ix
        ·have s:Hid (RdS.readS l=none):=hZ9 (L.out (by rw[K.out,<-H.out,aI p];simp));go_wp2_with fail;refine(g _).mono ?_;rintro e w0 ⟨rfl,rfl⟩;go_wp2_with fail;go_ret2;exact Cc.none s.out hb
        ·have V:decide (0<=ix)=false:=aB p;have HS:Hid (RdS.AE c=false):=hZ9 (by rw[<-H.out];exact V);clear p;by_cases j:c=32
         ·have W:((c.toNat:Int)==32)=true:=by rw[j];rfl
          cases ql with
          |true=>have s:Hid (RdS.readS l=none):=hZ9 (L.out (by rw[K.out,j];simp));clear j;go_wp2_with fail;refine(g _).mono ?_;rintro e w0 ⟨rfl,rfl⟩;go_wp2_with fail;go_ret2;exact Cc.none s.out hb
          |false=>
           have T:=hZ9 (B0.out (by rw[K.out,HS.out,j];rfl));clear j;go_wp2_with fail;refine(g _).mono ?_;rintro e w0 ⟨rfl,rfl⟩;go_wp2_with fail;refine(Ij w.heap.size w.heap.size acc c _ t (by omega) (by omega)).mono ?_;rintro e w1 ⟨rfl,hu,a⟩;go_wp2_with fail;go_roundw
           case rel=>exact u.out (k+1) c _ _ (by omega) (by omega) (by go_num) T.out hu (hb.trans a)
           case measure=>simp[intOf];omega
         ·have A5:=hZ9 j;have W:((c.toNat:Int)==32)=false:=aV.2 (λh=>A5.out (Dn rfl h));have T:=hZ9 (B0.out (by rw[K.out,HS.out,show (c==0)=false from by simpa using HZ.out,show (c==32)=false from by simpa using A5.out];rfl));clear j;go_wp2_with fail;refine(g _).mono ?_;rintro e w0 ⟨rfl,rfl⟩;go_wp2_with fail;refine(Ij w.heap.size w.heap.size acc c _ t (by omega) (by omega)).mono ?_;rintro e w1 ⟨rfl,hu,a⟩;go_wp2_with fail;go_roundw
          case rel=>exact u.out (k+1) c _ _ (by omega) (by omega) (by go_num) T.out hu (hb.trans a)
          case measure=>simp[intOf];omega
     ·have m:l.drop k=[]:=bO (by omega);have s:Hid (RdS.readS l=some acc):=hZ9 (by rw[Z.out,m];simp[RdS.AG]);have Y:=Builder_String_any w.heap.size w.heap.size acc wr (by first|exact t|simpa[Bld,Aj,Lib.byteCells] using t) (by omega);clear m;go_wp2_with fail;refine Y.mono ?_;rintro e w1 ⟨rfl,a⟩;go_wp2_with fail;go_ret2;exact⟨by rw[s.out];rfl,hb.trans a⟩
end
section
open Go.RowKit
open FiS (Fi)
def GR(C b:Nat)(l:iK)(w:World):Prop:=b<C/\C<=w.heap.size/\∃p v,(p=.pointer none\/p=.pointer (some ⟨b,0,none⟩))/\w.heap[b]?=some (.cells #[p,v] 159 (0,0))/\OwnB w C v l
def BH(C b:Nat)(w w':World):Prop:=Below b w w'/\∀k,k<C->k≠b->w'.heap[k]?=w.heap[k]?
theorem BH.refl(C b:Nat)(w:World):BH C b w w:=⟨Below.refl _ _,λ_ _ _=>rfl⟩
theorem BH.trans{u v:World}(h:BH C b u v)(h2:BH C b v w):BH C b u w:=⟨h.1.trans h2.1,λk hk hb=>(h2.2 k hk hb).trans (h.2 k hk hb)⟩
theorem BH.of_below(h:Below C w w')(hb:b<=C):BH C b w w':=⟨h.mono hb,λk hk _=>h.block k hk⟩
theorem BH.alloc(h:BH C b w w')(hb:b<=C)(hC:C<=w'.heap.size)(o:Obj):BH C b w (w'.alloc o):=h.trans (BH.of_below ((Af w' o).mono hC) hb)
theorem BH.drew(h:BH C b w w'):BH C b w w'.drew:=⟨h.1.drew,h.2⟩
theorem BH.setCell(h:BH C b w w')(i:Nat)(u:Value):BH C b w (w'.setCell ⟨b,i,none⟩ u):=⟨h.1.setCell (p:=⟨b,i,none⟩) (aA _) u,λk hk hb=>by
 rw[Below.heap_setCell _ _ _ _ hb];exact h.2 k hk hb⟩
theorem BH.bytes{g:Nat}(h:BH C b w w')(k:g<C)(f:g≠b)(d:BytesIn w g l):BytesIn w' g l:=by have e:=h.2 g k f;refine⟨ae d.1 h.1.size,λj i=>⟨(World.cell?_of_block (a:=⟨g,j,none⟩) e).trans (d.cell i),?_⟩⟩;have h2:=d.thaw i;unfold World.frozen? at h2⊢;rw[e];exact h2
theorem GR.call(h:GR C b l w)(hb:Below w.heap.size w w'):GR C b l w':=by obtain⟨h1,h2,p,v,hp,h3,h4⟩:=h;exact⟨h1,aX h2 hb.size,p,v,hp,(hb.block b (by omega)).trans h3,h4.call hb⟩
theorem GR.alloc(h:GR C b l w)(o:Obj):GR C b l (w.alloc o):=h.call (Af w o)
theorem GR.drew(h:GR C b l w):GR C b l w.drew:=h.call ((Below.refl _ _).drew)
theorem GR.bld(h:GR C b l w):Bld b b l w:=by
 obtain⟨h1,h2,p,v,hp,h3,h4⟩:=h;have d:v.ownBlock≠some b:=λe=>by have:=(World.ownsRow.lt h4 b e).1;omega
 have a:w.ownsRow b 5 1 v (l.map Aj).length (l.map Aj):=by rw[b9];exact World.ownsRow.mono h4 (by omega)
 rcases hp with rfl|rfl
 ·exact .inl ⟨aA _,v,h3,a,d⟩
 ·exact .inr ⟨aA _,v,h3,a,d⟩
theorem GR.fresh(hb:Below (w.heap.size+1) (w.alloc (.cells #[.pointer none,.slice none 0 0] 159)) w'):GR w'.heap.size w.heap.size [] w':=by
 have a:=hb.size;refine⟨by simp at a;omega,aA _,_,_,.inl rfl,?_,OwnB.empty _ _⟩;rw[hb.block _ (by omega)];show (w.heap.push _)[w.heap.size]?=_
 simp
theorem GR.stored{o:iK}{w2:World}{v h:Value}(m:b<C)(hC:C<=w.heap.size)(i:w.heap[b]?=some (.cells #[.pointer (some ⟨b,0,none⟩),v] 159 (0,0)))(f:OwnB w C v o)
  (n:w.grownBy w2 v.ownBlock)(d:OwnB w2 C h l):w2.cell? ⟨b,0,none⟩=some (.pointer (some ⟨b,0,none⟩))/\w2.cell? ⟨b,1,none⟩=some v/\w2.frozen? ⟨b,1,none⟩=false/\GR C b l (w2.setCell ⟨b,1,none⟩ h):=by
 have j:v.ownBlock≠some b:=λe=>by have:=(World.ownsRow.lt f b e).1;omega
 have g:h.ownBlock≠some b:=λe=>by have:=(World.ownsRow.lt d b e).1;omega
 have a:w2.heap[b]?=some (.cells #[.pointer (some ⟨b,0,none⟩),v] 159 (0,0)):=by rw[n.block b (by omega) (λe=>j e.symm)];exact i
 refine⟨by rw[Lib.cell_of_heap a];rfl,by rw[Lib.cell_of_heap a];rfl,Lib.frozen_of_heap a 1,m,?_,.pointer (some ⟨b,0,none⟩),h,.inr rfl,by simp[World.setCell,Array.getElem?_modify,a],?_⟩
 ·have:=n.size;simp[World.setCell];omega
 ·exact World.ownsRow.kept d (row:=some b) ⟨rfl,rfl,rfl,by simp[World.setCell],λk _ hk=>Below.heap_setCell _ _ _ _ (λe=>hk (by simp[e]))⟩ (gi g)
end
section
open Go.RowKit
attribute [local go_sem ↓] Go.wp_at_zero Go.wp_at_succ
def Om(l:iK)(w:World)(e:Ending)(w':World):Prop:=e=.returned (.tuple #[.string ⟨((FiS.Gw l).getD []).toArray⟩,.bool (FiS.Gw l).isSome])/\Below w.heap.size w w'
theorem Om.none{l:iK}{w w':World}(h:FiS.Gw l=none)(hb:Below w.heap.size w w'):Om l w (.returned (.tuple #[.string ⟨#[]⟩,false])) w':=by unfold Om;rw[h];exact⟨rfl,hb⟩
theorem Om.some{l acc:iK}{w w':World}(h:FiS.Gw l=some acc)(hb:Below w.heap.size w w'):Om l w (.returned (.tuple #[acc,true])) w':=by unfold Om;rw[h];exact⟨rfl,hb⟩
end
section
open Go.Shelf Go.RowKit Go.Lib Go.Sort Go.Proofs
def ren:Ren:={ f:=λx=>if x=20 then 218 else x,t:=λx=>match x with|0=>0|3=>3|4=>4|22=>151|24=>190|25=>215|x=>x,g:=λx=>x }
theorem AeN:Bears prog (ren.f 20) (SlBodyF.n20 ren):=⟨"slices.insertionSortCmpFunc[verger/rdn.AVA]",by kernel_rfl,by kernel_rfl⟩
theorem Zq:SlLaysF0.n20 prog ren where
 mixed:=by kernel_rfl
 f20:=AeN
 t0:=underlying0
 a0:=λw=>by kernel_rfl
 z0:=λw=>by kernel_rfl
 v0:=λw=>by kernel_rfl
 t3:=underlying3
 a3:=λw=>by kernel_rfl
 z3:=λw=>by kernel_rfl
 v3:=λw=>by kernel_rfl
 t4:=underlying4
 a4:=λw=>by kernel_rfl
 z4:=λw=>by kernel_rfl
 v4:=λw=>by kernel_rfl
 t22:=underlying151
 a22:=λw=>by kernel_rfl
 z22:=λw=>by kernel_rfl
 v22:=λw=>by kernel_rfl
 t25:=underlying215
 a25:=λw=>by kernel_rfl
 z25:=λw=>by kernel_rfl
 v25:=λw=>by kernel_rfl
def AU(p:RdS.Pr):List Value:=[Ac p.1,Ac p.2]
theorem Xk(p:RdS.Pr):(AU p).length=2:=rfl
theorem AeO(p:RdS.Pr):∀v∈AU p,v.oneCell'=true:=by intro v a;simp only[AU,ay,dX,fZ] at a;rcases a with rfl|rfl<;>rfl
def cfP(x y:RdS.Pr):Int:=Lib.compareBytes x.1 y.1
theorem Afh(x y:RdS.Pr)(W:World):Calls prog 171 #[.agg #[x.1,x.2],.agg #[y.1,y.2]] W λe w'=>e=.returned (.int .i64 (cfP x y))/\∃q d,w'=grow (W.drewN q) d:=by
 have a:=λf=>strings_Compare ⟨x.1.toArray⟩ ⟨y.1.toArray⟩ f;change ∀W,Calls prog 172 _ W (λe w2=>e=.returned (.int .i64 (cfP x y))/\w2=W) at a;generalize cfP x y=r at*;go_enter func171,ntmps171;go_wp2_with (go_at_call 172;refine(a _).mono ?_;rintro e w1 ⟨rfl,rfl⟩)
 go_ret;exact⟨rfl,0,_,by rw[alloc_eq_grow,alloc_eq_grow,grow_grow];rfl⟩
theorem Age(blk off size:Nat)(w:World):CmpLays prog 171 #[] AU 2 cfP blk off size w:=λ_ _ _ _ x y=>Afh x y _
theorem Ads:∀args w,(callFunc 171 args).run prog w=.ok (.enter 171 args) w:=enters_of func171 (by kernel_rfl) rfl
def Hu:Value:=.func (.func 171) #[] #[]
theorem TX(blk off cap a b:Nat)(d:Array RdS.Pr)(w:World)(hH:HoldsK AU 2 w blk off d)(hblk:blk<w.heap.size)(f:a<=b)(hb:b<=d.size)(hsz:d.size<1000000000):
  Calls prog 218 #[.slice (some ⟨blk,off,none⟩) d.size cap,a,b,Hu] w λe w'=>
   e=.returned (.tuple #[])/\∃n os,w'=sortWorldK AU 2 w blk off n (Sort.insertionSort (ltOf cfP) d a b) os:=
 AnyQ.insertionSortCmpFunc Zq 2 isAgg190 sizeOf190 AU Xk AeO cfP 171 #[] blk off cap a b d w Ads (Age blk off d.size w) hH hblk f hb (by omega)
end
section
open Go.Shelf Go.RowKit Go.Lib Go.Sort Go.Proofs
def SW(w0:World)(blk off n:Nat)(w:World):Prop:=∃(m:Nat) (a:Array RdS.Pr) (os:Array Obj),a.size=n/\w=sortWorldK AU 2 w0 blk off m a os
def Swp(w0:World)(blk off n:Nat)(e:Ending)(w:World):Prop:=e=.returned (.tuple #[])/\SW w0 blk off n w
theorem exch(w0:World)(blk off:Nat)(d:Array RdS.Pr)(hH:HoldsK AU 2 w0 blk off d)(hblk:blk<w0.heap.size)(m:Nat)(a:Array RdS.Pr)(os:Array Obj)(s:a.size=d.size)(i j:Nat)(k:i<a.size)(h:j<a.size)(t:i≠j):
  ∃(A B:Nat) (p o n r:iK),(off+i*2=A/\off+j*2=B)/\(¬A=B/\¬B=A/\¬A+1=B/\¬A=B+1/\¬B=A+1/\¬B+1=A)/\
   ((sortWorldK AU 2 w0 blk off m a os).cell? ⟨blk,A,none⟩=some (.string ⟨p.toArray⟩)/\(sortWorldK AU 2 w0 blk off m a os).cell? ⟨blk,A+1,none⟩=some (.string ⟨o.toArray⟩)/\
    (sortWorldK AU 2 w0 blk off m a os).cell? ⟨blk,B,none⟩=some (.string ⟨n.toArray⟩)/\(sortWorldK AU 2 w0 blk off m a os).cell? ⟨blk,B+1,none⟩=some (.string ⟨r.toArray⟩))/\
   ((sortWorldK AU 2 w0 blk off m a os).frozen? ⟨blk,A,none⟩=false/\(sortWorldK AU 2 w0 blk off m a os).frozen? ⟨blk,A+1,none⟩=false/\
    (sortWorldK AU 2 w0 blk off m a os).frozen? ⟨blk,B,none⟩=false/\(sortWorldK AU 2 w0 blk off m a os).frozen? ⟨blk,B+1,none⟩=false)/\
   (((((sortWorldK AU 2 w0 blk off m a os).drew.setCell ⟨blk,A,none⟩ (.string ⟨n.toArray⟩)).setCell ⟨blk,A+1,none⟩ (.string ⟨r.toArray⟩)).setCell ⟨blk,B,none⟩ (.string ⟨p.toArray⟩)).setCell ⟨blk,B+1,none⟩ (.string ⟨o.toArray⟩))=sortWorldK AU 2 w0 blk off (m+1) (swp a i j) os:=by
 have e:HoldsK AU 2 (sortWorldK AU 2 w0 blk off m a os) blk off a:=holdsK_sortWorldK_c AU 2 w0 blk off d a m os hH hblk s;have ci:=e.cell k (c:=0) (by decide);have f:=e.cell k (c:=1) (by decide);have q:=e.cell h (c:=0) (by decide);have g:=e.cell h (c:=1) (by decide);exact⟨off+i*2,off+j*2,a[i]!.1,a[i]!.2,a[j]!.1,a[j]!.2,⟨rfl,rfl⟩,by omega,⟨ci.1,f.1,q.1,g.1⟩,⟨ci.2,f.2,q.2,g.2⟩,
  sortWorldK_swp_c AU 2 w0 blk off Xk m a os hblk i j k h⟩
theorem Yn(w0:World)(blk off cap:Nat)(d:Array RdS.Pr)(hH:HoldsK AU 2 w0 blk off d)(hblk:blk<w0.heap.size)(hsz:d.size<1000000000)(a b n:Nat)(F:a+n<=b)(hb:b+n<=d.size)(w:World)(v:SW w0 blk off d.size w):
  Calls prog 270 #[.slice (some ⟨blk,off,none⟩) d.size cap,a,b,n,Hu] w (Swp w0 blk off d.size):=by
 obtain⟨m0,o,os0,r,rfl⟩:=v;have hex:=exch w0 blk off d hH hblk;have q:=hZ9 hex;clear hex hH;generalize s:d.size=sz at*;have K:=hZ9 s;clear s;go_enter func270,ntmps270
 go_wp2
 go_loopg [10] n (λg1 z wr=>∃(i m:Nat) (e:Array RdS.Pr) (os:Array Obj),z=.int .i64 i/\i<=n/\n-i<=g1/\e.size=sz/\wr=sortWorldK AU 2 w0 blk off m e os)
 case atStart=>exact⟨0,m0,o,os0,rfl,aR _,by omega,r,rfl⟩
 case round=>
  obtain⟨i,m,e,os,rfl,u,t,g,rfl⟩:=hrel;by_cases p:i<n
  ·have j:(i:Int)<(n:Int):=by omega
   obtain⟨A,B,N,H,M,O,⟨hA,hB⟩,⟨J,S,n3,n4,n5,n6⟩,⟨c1,c2,c3,c4⟩,⟨f1,f2,G,f4⟩,f⟩:=q.out m e os g (a+i) (b+i) (by omega) (by omega) (by omega);have E:IntKind.i64.wrap ((a:Int)+(i:Int))=(a:Int)+(i:Int):=by rw[IntKind.wrap_i64];omega
   have R:IntKind.i64.wrap ((b:Int)+(i:Int))=(b:Int)+(i:Int):=by rw[IntKind.wrap_i64];omega
   have L:((a:Int)+(i:Int)).toNat=a+i:=by omega
   have I:((b:Int)+(i:Int)).toNat=b+i:=by omega
   have P:(a:Int)+(i:Int)<(sz:Int):=by omega
   have Q:(b:Int)+(i:Int)<(sz:Int):=by omega
   have x:(0:Int)<=(a:Int)+(i:Int):=by omega
   have y:(0:Int)<=(b:Int)+(i:Int):=by omega
   have k:=hZ9 f;clear f;have h:Hid ((swp e (a+i) (b+i)).size=sz):=hZ9 (by rw[size_swp];exact g);generalize swp e (a+i) (b+i)=dk2 at*;generalize sortWorldK AU 2 w0 blk off m e os=wq at*
   go_wp2
   go_region
   all_goals go_wp2
   go_roundg (n-(i+1))
   case measure=>omega
   case rel=>exact⟨i+1,m+1,dk2,os,by go_num,p,by omega,h.out,k.out⟩
  ·have j:¬(i:Int)<(n:Int):=by omega
   go_wp2
   go_end0
   exact⟨rfl,m,e,os,g,rfl⟩
theorem AeP(w0:World)(blk off cap:Nat)(d:Array RdS.Pr)(hH:HoldsK AU 2 w0 blk off d)(hblk:blk<w0.heap.size)(hsz:d.size<1000000000)(a m b:Nat)(F:a<m)(P:m<b)(hb:b<=d.size)(w:World)(o:SW w0 blk off d.size w):
  Calls prog 249 #[.slice (some ⟨blk,off,none⟩) d.size cap,.int .i64 a,m,.int .i64 b,Hu] w (Swp w0 blk off d.size):=by
 have h:=λa b n h1 h2 w o=>Yn w0 blk off cap d hH hblk hsz a b n h1 h2 w o;unfold Swp Hu at h;have g:=hZ9 h;clear h hH;generalize L:d.size=sz at*;clear L;have O:=hZ9 o;clear o;obtain⟨i0,E⟩:∃i0:Nat,(m:Int)-(a:Int)=(i0:Int):=⟨m-a,by omega⟩
 obtain⟨k,N⟩:∃k:Nat,(b:Int)-(m:Int)=(k:Int):=⟨b-m,by omega⟩
 have M:IntKind.i64.wrap (i0:Int)=(i0:Int):=by rw[IntKind.wrap_i64];omega
 have G:IntKind.i64.wrap (k:Int)=(k:Int):=by rw[IntKind.wrap_i64];omega
 unfold Hu;go_enter func249,ntmps249
 go_wp2
 go_loopg [10,11] (i0+k) (λg1 Q K wr=>∃(i j:Nat),Q=.int .i64 i/\K=.int .i64 j/\1<=i/\1<=j/\i<=m/\m+j<=sz/\i+j<=g1/\Hid (SW w0 blk off sz wr))
 case atStart=>exact⟨i0,k,rfl,rfl,by omega,by omega,by omega,by omega,aA _,O⟩
 case round=>
  obtain⟨i,j,rfl,rfl,x,y,A,v,J,t⟩:=hrel;obtain⟨p,hp⟩:∃p:Nat,(m:Int)-(i:Int)=(p:Int):=⟨m-i,by omega⟩
  have wp:IntKind.i64.wrap (p:Int)=(p:Int):=by rw[IntKind.wrap_i64];omega
  by_cases u:i=j
  ·subst u;have z:((i:Int) !=(i:Int))=false:=by simp
   go_wp2_with (go_at_call 270;refine(g.out p m i (by omega) (by omega) _ t.out).mono ?_;rintro e w1 ⟨rfl,f⟩)
   go_end0
   exact⟨rfl,f⟩
  ·have z:((i:Int) !=(j:Int))=true:=by simp;omega
   by_cases H:j<i
   ·have I:(j:Int)<(i:Int):=by omega
    obtain⟨q,B⟩:∃q:Nat,(i:Int)-(j:Int)=(q:Int):=⟨i-j,by omega⟩
    have R:IntKind.i64.wrap (q:Int)=(q:Int):=by rw[IntKind.wrap_i64];omega
    go_wp2_with (go_at_call 270;refine(g.out p m j (by omega) (by omega) _ t.out).mono ?_;rintro e w1 ⟨rfl,f⟩)
    go_roundg (q+j)
    case measure=>omega
    case rel=>exact⟨q,j,rfl,rfl,by omega,y,by omega,v,aA _,hZ9 f⟩
   ·have I:¬(j:Int)<(i:Int):=by omega
    obtain⟨q,B⟩:∃q:Nat,(j:Int)-(i:Int)=(q:Int):=⟨j-i,by omega⟩
    have R:IntKind.i64.wrap (q:Int)=(q:Int):=by rw[IntKind.wrap_i64];omega
    obtain⟨s,T⟩:∃s:Nat,(m:Int)+(j:Int)=(s:Int):=⟨m+j,by omega⟩
    have ws:IntKind.i64.wrap (s:Int)=(s:Int):=by rw[IntKind.wrap_i64];omega
    obtain⟨r,S⟩:∃r:Nat,(s:Int)-(i:Int)=(r:Int):=⟨s-i,by omega⟩
    have wr:IntKind.i64.wrap (r:Int)=(r:Int):=by rw[IntKind.wrap_i64];omega
    go_wp2_with (go_at_call 270;refine(g.out p r i (by omega) (by omega) _ t.out).mono ?_;rintro e w1 ⟨rfl,f⟩)
    go_roundg (i+q)
    case measure=>omega
    case rel=>exact⟨i,q,rfl,rfl,x,by omega,A,by omega,aA _,hZ9 f⟩
end
