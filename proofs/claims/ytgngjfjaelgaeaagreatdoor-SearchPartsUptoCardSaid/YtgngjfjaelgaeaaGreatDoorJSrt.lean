/- The walks of the digits and of the special bytes: the program's 'digit', the document's 'hex' and 'special'. Conditions: as stated. -/
import Derived.Shelf.SlSortCmp.InsertionK
import Derived.Test.YtgngjfjaelgaeaaGreatDoorJRda
set_option maxRecDepth 1000000
set_option maxHeartbeats 8000000
namespace Go.Proofs.YtgngjfjaelgaeaaGreatDoor
open Go.Proofs.Tryz
section
open Go.RowKit
namespace RdS
def Gi (c:UInt8):Int:=match hexOf c with
 | some n=>(n:Int)
 | none=>-1
theorem Aap:∀n:Fin 256,Lib.indexByte hexL (RuS.lowC (UInt8.ofNat n.val))=Gi (UInt8.ofNat n.val):=by decide+kernel
theorem Aei (c:UInt8):Lib.indexByte hexL (RuS.lowC c)=Gi c:=by
 have h:=Aap ⟨c.toNat,c.toNat_lt⟩
 simpa using h
theorem IQ (c:UInt8):(hexOf c=none/\Gi c=-1)\/∃n:Nat,hexOf c=some n/\Gi c=(n:Int)/\n<16:=by
 unfold Gi hexOf;split
 · exact .inr ⟨_,rfl,rfl,by omega⟩
 · split
   · exact .inr ⟨_,rfl,rfl,by omega⟩
   · split
     · exact .inr ⟨_,rfl,rfl,by omega⟩
     · exact .inl ⟨rfl,rfl⟩
end RdS
theorem digit_c (c:UInt8) (w:World):Calls prog 195 #[.int .u8 (c.toNat:Int)] w fun e w'=>e=.returned (.int .i64 (RdS.Gi c))/\Below w.heap.size w w':=by
 have a:=fun w=>lower_c ⟨#[c]⟩ (by show 1<=_;decide) w;unfold Ce at a;have i:(RuS.lower (⟨#[c]⟩:ByteArray).data.toList)=[RuS.lowC c]:=rfl;rw [i] at a;have h:=fun w=>strings_IndexByte ⟨#[48,49,50,51,52,53,54,55,56,57,97,98,99,100,101,102]⟩ ((RuS.lowC c).toNat:Int) w;have f:(⟨#[48,49,50,51,52,53,54,55,56,57,97,98,99,100,101,102]⟩:ByteArray).data.toList=RdS.hexL:=rfl;have b:(((RuS.lowC c).toNat:Int).toNat.toUInt8)=RuS.lowC c:=by rw [Int.toNat_natCast];exact ck
 rw [f,b,RdS.Aei] at h;clear f b i;have k:(convert 157 9 (.slice (some ⟨w.heap.size,0,none⟩) 1 1)).run prog (w.alloc (.cells #[.int .u8 (c.toNat:Int)] 5))=.ok (.string ⟨#[c]⟩) (w.alloc (.cells #[.int .u8 (c.toNat:Int)] 5)):=by
  refine run_convert_bytes_back (w.alloc (.cells #[.int .u8 (c.toNat:Int)] 5)) _ _ 5 ⟨w.heap.size,0,none⟩ 1 [c] underlying157 underlying5 underlying9 fun j m=>?_;have:j=0:=by simp at m;exact m
  subst this;have g:(⟨w.heap.size,0,none⟩:Addr).add 0=⟨w.heap.size,0,none⟩:=by unfold Addr.add;split <;> simp_all
  rw [g];simp [go_sem]
 generalize RuS.lowC c=d at*;generalize RdS.Gi c=r at*;go_enter func195,ntmps195;go_wp2_with fail;refine (a _).mono ?_;rintro e w1 ⟨rfl,l⟩;go_wp2_with fail;refine (h _).mono ?_;rintro e w2 ⟨rfl,rfl⟩;go_wp2_with fail;go_ret;exact ⟨rfl,(Af w _).trans (l.mono (by simp))⟩
theorem Nq (c:UInt8) (w:World):Calls prog 149 #[.int .u8 (c.toNat:Int)] w fun e w'=>e=.returned (.bool (RdS.Av c))/\w=w':=by
 cases b:RdS.Av c with
 | true=>
  have f:c ∈ RdS.Es:=cZ.1 b;simp only [RdS.Es,ay,dU,fQ] at f;clear b;rcases f with rfl | rfl | rfl | rfl | rfl | rfl | rfl
  all_goals
   go_enter func149,ntmps149;go_wp2_with fail;go_ret;exact ⟨rfl,rfl⟩
 | false=>have a:∀d,RdS.Av d=true->c≠d:=fun d hd=>RdS.Gm hd b;have f1:((c.toNat:Int)==44)=false:=aV.2 (fun h=>a 44 (by decide) (Di rfl h));have f2:((c.toNat:Int)==43)=false:=aV.2 (fun h=>a 43 (by decide) (Di rfl h));have g:((c.toNat:Int)==34)=false:=aV.2 (fun h=>a 34 (by decide) (Di rfl h));have f4:((c.toNat:Int)==92)=false:=aV.2 (fun h=>a 92 (by decide) (Di rfl h));have f5:((c.toNat:Int)==60)=false:=aV.2 (fun h=>a 60 (by decide) (Di rfl h));have f6:((c.toNat:Int)==62)=false:=aV.2 (fun h=>a 62 (by decide) (Di rfl h));have f7:((c.toNat:Int)==59)=false:=aV.2 (fun h=>a 59 (by decide) (Di rfl h));clear a b;go_enter func149,ntmps149;go_wp2_with fail;go_ret;exact ⟨rfl,rfl⟩
theorem Aaq (c:UInt8) (w:World):Calls prog 199 #[.int .u8 (c.toNat:Int)] w fun e w'=>e=.returned (.int .i64 (RdS.Gi c))/\w=w':=by
 have b:=c.toNat_lt;by_cases h1:48<=c.toNat/\c.toNat<=57
 · have HR:Hid (RdS.Gi c=(c.toNat:Int) - 48):=hZ9 (by unfold RdS.Gi RdS.hexOf;rw [aP h1];show ((c.toNat - 48:Nat):Int)=_;omega);obtain ⟨h1,h2⟩:=h1;have g1:(48:Int)<=(c.toNat:Int):=by omega
   have g2:(c.toNat:Int)<=57:=by omega
   go_enter func199,ntmps199;go_wp2_with fail;go_ret;exact ⟨by rw [HR.out];rfl,rfl⟩
 by_cases h2:97<=c.toNat/\c.toNat<=102
 · have HR:Hid (RdS.Gi c=(c.toNat:Int) - 97+10):=hZ9 (by unfold RdS.Gi RdS.hexOf;rw [aG h1,aP h2];show ((c.toNat - 97+10:Nat):Int)=_;omega);obtain ⟨h3,h4⟩:=h2;have g1:decide ((c.toNat:Int)<=57)=false:=aC (by omega);have g0:(48:Int)<=(c.toNat:Int):=by omega
   have g2:(97:Int)<=(c.toNat:Int):=by omega
   have g3:(c.toNat:Int)<=102:=by omega
   clear h1;go_enter func199,ntmps199;go_wp2_with fail;go_ret;exact ⟨by rw [HR.out];rfl,rfl⟩
 by_cases h3:65<=c.toNat/\c.toNat<=70
 · have HR:Hid (RdS.Gi c=(c.toNat:Int) - 65+10):=hZ9 (by unfold RdS.Gi RdS.hexOf;rw [aG h1,aG h2,aP h3];show ((c.toNat - 65+10:Nat):Int)=_;omega);obtain ⟨h4,h5⟩:=h3;have g1:decide ((c.toNat:Int)<=57)=false:=aC (by omega);have g0:(48:Int)<=(c.toNat:Int):=by omega
   have g2:decide ((97:Int)<=(c.toNat:Int))=false:=aC (by omega);have g3:(65:Int)<=(c.toNat:Int):=by omega
   have g4:(c.toNat:Int)<=70:=by omega
   clear h1 h2;go_enter func199,ntmps199;go_wp2_with fail;go_ret;exact ⟨by rw [HR.out];rfl,rfl⟩
 have HR:Hid (RdS.Gi c=-1):=hZ9 (by unfold RdS.Gi RdS.hexOf;rw [aG h1,aG h2,aG h3]);have hc:c.toNat<48\/(57<c.toNat/\c.toNat<65)\/(70<c.toNat/\c.toNat<97)\/102<c.toNat:=by omega
 clear h1 h2 h3;rcases hc with h | ⟨h,a⟩ | ⟨h,a⟩ | h
 all_goals
  first | have g1:(48:Int)<=(c.toNat:Int):=by omega | have g1:decide ((48:Int)<=(c.toNat:Int))=false:=aC (by omega)
  first | have g2:(c.toNat:Int)<=57:=by omega | have g2:decide ((c.toNat:Int)<=57)=false:=aC (by omega)
  first | have g3:(97:Int)<=(c.toNat:Int):=by omega | have g3:decide ((97:Int)<=(c.toNat:Int))=false:=aC (by omega)
  first | have g4:(c.toNat:Int)<=102:=by omega | have g4:decide ((c.toNat:Int)<=102)=false:=aC (by omega)
  first | have g5:(65:Int)<=(c.toNat:Int):=by omega | have g5:decide ((65:Int)<=(c.toNat:Int))=false:=aC (by omega)
  first | have g6:(c.toNat:Int)<=70:=by omega | have g6:decide ((c.toNat:Int)<=70)=false:=aC (by omega)
  go_enter func199,ntmps199;go_wp2_with fail;go_ret;exact ⟨by rw [HR.out];rfl,rfl⟩
end
section
open Go.RowKit
attribute [local go_sem ↓] Go.wp_at_zero Go.wp_at_succ
namespace RdS
def Uh:List UInt8:=[44,43,34,92,60,62,59,35,61,32]
theorem AcB:∀n:Fin 256,decide (0<=Lib.indexByte Uh (UInt8.ofNat n.val))=Ea (UInt8.ofNat n.val):=by decide+kernel
theorem XC (c:UInt8):decide (0<=Lib.indexByte Uh c)=Ea c:=by
 have h:=AcB ⟨c.toNat,c.toNat_lt⟩
 rwa [show UInt8.ofNat c.toNat=c from ck] at h
theorem LA {c:UInt8} {last:Bool} (h1:c≠32) (h2:c≠35):Dk true last c=Dk false last c:=by
 have a:(c==32)=false:=by simpa using h1
 have b:(c==35)=false:=by simpa using h2
 unfold Dk;rw [a,b];simp
theorem XD {c:UInt8} {r:List UInt8} (h1:c≠32) (h2:c≠35):readS (c :: r)=Az false (c :: r):=by
 unfold readS
 match r with
 | []=>simp [Az,LA h1 h2]
 | [d]=>simp [Az,LA h1 h2]
 | d :: e :: r=>simp [Az,LA h1 h2]
theorem AcC {c:UInt8} {r:List UInt8} (h:c=32\/c=35):readS (c :: r)=none:=by
 unfold readS;refine JA ?_ ?_
 · rcases h with rfl | rfl <;> decide
 · rcases h with rfl | rfl <;> simp [Dk]
end RdS
def BV (l:List UInt8) (w:World) (e:Ending) (w':World):Prop:=e=.returned (.tuple #[.string ⟨((RdS.readS l).getD []).toArray⟩,.bool (RdS.readS l).isSome])/\Below w.heap.size w w'
theorem BV.none {l:List UInt8} {w w':World} (h:RdS.readS l=none) (hb:Below w.heap.size w w'):BV l w (.returned (.tuple #[.string ⟨#[]⟩,.bool false])) w':=by unfold BV;rw [h];exact ⟨rfl,hb⟩
def Yy (l:List UInt8) (w:World) (i:Value) (wr:World):Prop:=
 ∃(k:Nat) (acc:List UInt8),k<=l.length/\i=.int .i64 k/\Bld w.heap.size w.heap.size acc wr/\acc.length<=k/\RdS.readS l=(RdS.Az false (l.drop k)).map (acc++·)/\Below w.heap.size w wr
theorem Ag2 {x y:Nat} (hx:x<16) (c:y<16):bits .or .i64 ((x:Int)*16) (y:Int)=((16*x+y:Nat):Int):=by
 have h:∀a:Fin 16,∀b:Fin 16,bits .or .i64 ((a.val:Int)*16) (b.val:Int)=((16*a.val+b.val:Nat):Int):=by decide+kernel
 exact h ⟨x,hx⟩ ⟨y,c⟩
theorem Yz (l:List UInt8) (hl:l.length<=1000000) (w:World):Calls prog 169 #[.string ⟨l.toArray⟩] w (BV l w):=by
 match l,hl with
 | [],hl=>have Y:=Builder_String_any w.heap.size w.heap.size [] (w.alloc (.cells #[.pointer none,.slice none 0 0] 159)) (by first | exact Bld.fresh w | simpa [Bld,Ai,Lib.byteCells] using Bld.fresh w) (by simp);go_enter func169,ntmps169;go_wp2_with fail;refine wp_loop_rounds 1 ?_;rw [rounds_succ];go_wp2_with fail;refine Y.mono ?_;rintro e w1 ⟨rfl,a⟩;go_wp2_with fail;go_ret2;exact ⟨rfl,(Af w _).trans a⟩
 | c0 :: r0,hl=>
  have M:=hZ9 (fun (h:c0=32\/c0=35)=>RdS.AcC (r:=r0) h);have A5:=hZ9 (fun (h1:c0≠32) (h2:c0≠35)=>RdS.XD (r:=r0) h1 h2);have h0:0<(c0 :: r0).length:=by simp
  have C4:∀h,(⟨(c0 :: r0).toArray⟩:ByteArray)[0]'h=c0:=fun _=>rfl;have C1:(c0 :: r0).isEmpty=false:=rfl;generalize c0 :: r0=l at*;by_cases K:c0=32
  · have W:((c0.toNat:Int)==32)=true:=by rw [K];rfl
    have HC:=hZ9 K;clear K;go_enter func169,ntmps169;go_wp2_with fail;go_ret2;exact BV.none (M.out (.inl HC.out)) (Af w _)
  · have T:=hZ9 K;have W:((c0.toNat:Int)==32)=false:=aV.2 (fun h=>T.out (Di rfl h));clear K;by_cases H:c0=35
    · have B2:((c0.toNat:Int)==35)=true:=by rw [H];rfl
      have HC:=hZ9 H;clear H;go_enter func169,ntmps169;go_wp2_with fail;go_ret2;exact BV.none (M.out (.inr HC.out)) (Af w _)
    · have S:=hZ9 H;have B2:((c0.toNat:Int)==35)=false:=aV.2 (fun h=>S.out (Di rfl h));have B7:=hZ9 (A5.out T.out S.out);clear H A5 M;go_enter func169,ntmps169;go_wp2_with fail;go_loopw [5] (fun i wr=>Yy l w i wr) (fun i _=>l.length - (intOf i).toNat)
      case atStart=>exact ⟨0,[],aR _,rfl,Bld.fresh w,aR _,by rw [B7.out,bQ];simp,Af w _⟩
      case round=>
       obtain ⟨k,acc,hk,rfl,q,C2,A8,hb⟩:=hrel;have HK:=hZ9 hk;have Z:=hZ9 A8;have hsz:=hb.size;clear A8 hk;by_cases B8:k<l.length
       · have P:=hZ9 (av B8);generalize A9:l[k]=c at*;have C7:∀h,(⟨l.toArray⟩:ByteArray)[k]'h=c:=fun _=>A9;clear A9;have m:Hid (RdS.Az false (l.drop k)=none->RdS.readS l=none):=hZ9 (fun h=>by rw [Z.out,h];rfl);have t:Hid (∀(k2:Nat) (x:UInt8) (i:Value) (w2:World),k2<=l.length->k<k2->i=.int .i64 k2->RdS.Az false (l.drop k)=(RdS.Az false (l.drop k2)).map (x :: ·)->Gf w.heap.size w.heap.size (acc++[x]) w2->Below w.heap.size w w2->Yy l w i w2):=
          hZ9 (fun k2 x i w2 h1 h2 hi h3 h4 h5=>⟨k2,acc++[x],h1,hi,h4.bld,by simp;omega,by rw [Z.out,h3,Option.map_map];congr 1;funext y;simp,h5⟩)
         by_cases h92:c=92
         · have n:=hZ9 h92;have B6:((c.toNat:Int) !=92)=false:=by rw [h92];rfl
           clear h92;by_cases B9:k+1<l.length
           · have L:=hZ9 (av B9);generalize B0:l[k+1]=d at*;have C6:∀h,(⟨l.toArray⟩:ByteArray)[k+1]'h=d:=fun _=>B0;clear B0;have A0:(k:Int)+1<(l.length:Int):=by omega
             have b:=fun w=>strings_IndexByte ⟨#[44,43,34,92,60,62,59,35,61,32]⟩ (d.toNat:Int) w;have G:(⟨#[44,43,34,92,60,62,59,35,61,32]⟩:ByteArray).data.toList=RdS.Uh:=rfl;have I:((d.toNat:Int).toNat.toUInt8)=d:=by rw [Int.toNat_natCast];exact ck
             rw [G,I] at b;clear G I;have F:=hZ9 (RdS.XC d);generalize Lib.indexByte RdS.Uh d=ix at*;replace b:=fun w=>(b w).mono (fun e w' (h:_/\_)=>(⟨h.1,h.2.symm⟩:e=.returned (.int .i64 ix)/\w=w'));by_cases o:0<=ix
             · have v:Hid (RdS.Ea d=true):=hZ9 (by rw [<-F.out,aL o]);have N:Hid (RdS.Az false (l.drop k)=(RdS.Az false (l.drop (k+2))).map (d :: ·)):=hZ9 (by rw [P.out,n.out,L.out,RdS.EA _ v.out]);go_wp2_with fail;refine (b _).mono ?_;rintro e w0 ⟨rfl,rfl⟩;go_wp2_with fail;refine (Ic w.heap.size w.heap.size acc d _ q (by omega) (by omega)).mono ?_;rintro e w1 ⟨rfl,hu,a⟩;go_wp2_with fail;go_roundw
               case rel=>exact t.out (k+2) d _ _ (by omega) (by omega) (by go_num) N.out hu (hb.trans a)
               case measure=>simp [intOf];omega
             · have v:Hid (RdS.Ea d=false):=hZ9 (by rw [<-F.out,aC o]);have Q:decide (0<=ix)=false:=aC o;clear o;by_cases B5:k+2<l.length
               · have U:=hZ9 (av B5);generalize A4:l[k+2]=f at*;have C9:∀h,(⟨l.toArray⟩:ByteArray)[k+2]'h=f:=fun _=>A4;clear A4;have R:(k:Int)+2<(l.length:Int):=by omega
                 have s:=fun w=>digit_c d w;have u:=fun w=>digit_c f w;rcases RdS.IQ d with ⟨hn,hv⟩ | ⟨x,hx,V,A2⟩
                 · rw [hv] at s;have p:Hid (RdS.readS l=none):=hZ9 (m.out (by rw [P.out,n.out,L.out,show k+1+1=k+2 from rfl,U.out,RdS.CZ _ v.out (.inl hn)]));clear hn hv u;go_wp2_with fail;refine (b _).mono ?_;rintro e w0 ⟨rfl,rfl⟩;go_wp2_with fail;refine (s _).mono ?_;rintro e w1 ⟨rfl,a⟩;go_wp2_with fail;go_ret2;exact BV.none p.out (hb.trans (a.mono (by omega)))
                 · rcases RdS.IQ f with ⟨hn,hv⟩ | ⟨y,hy,B4,A1⟩
                   · rw [V] at s;rw [hv] at u;have p:Hid (RdS.readS l=none):=hZ9 (m.out (by rw [P.out,n.out,L.out,show k+1+1=k+2 from rfl,U.out,RdS.CZ _ v.out (.inr hn)]));clear hn hv hx V;go_wp2_with fail;refine (b _).mono ?_;rintro e w0 ⟨rfl,rfl⟩;go_wp2_with fail;refine (s _).mono ?_;rintro e w1 ⟨rfl,a⟩;go_wp2_with fail;refine (u _).mono ?_;rintro e w2 ⟨rfl,E⟩;go_wp2_with fail;go_ret2;exact BV.none p.out (hb.trans ((Aa a E).mono (by omega)))
                   · have N:Hid (RdS.Az false (l.drop k)=(RdS.Az false (l.drop (k+3))).map (UInt8.ofNat (16*x+y) :: ·)):=hZ9 (by
                      rw [P.out,n.out,L.out,show k+1+1=k+2 from rfl,U.out,RdS.EM _ v.out hx hy])
                     have A6:=Ag2 A2 A1;have HT:Hid (((UInt8.ofNat (16*x+y)).toNat:Int)=((16*x+y:Nat):Int)):=hZ9 (by rw [bu];omega);obtain ⟨z,O⟩:∃z:UInt8,z=UInt8.ofNat (16*x+y):=⟨_,rfl⟩
                     rw [<-O] at N HT;have C0:bits .or .i64 ((x:Int)*16) (y:Int)=(z.toNat:Int):=by rw [A6,HT.out]
                     have B1:=z.toNat_lt;clear hx hy A6 O HT;rw [V] at s;rw [B4] at u;go_wp2_with fail;refine (b _).mono ?_;rintro e w0 ⟨rfl,rfl⟩;go_wp2_with fail;refine (s _).mono ?_;rintro e w1 ⟨rfl,a⟩;go_wp2_with fail;refine (u _).mono ?_;rintro e w2 ⟨rfl,E⟩;go_wp2_with fail;have C:=((q.call a).call E).drew;have A:Below w.heap.size w w2.drew:=(hb.trans ((Aa a E).mono (by omega))).drew;clear q a E hb;have C3:=A.size;have D1:IntKind.u8.wrap (z.toNat:Int)=(z.toNat:Int):=by rw [IntKind.wrap_u8];omega
                     have C8:IntKind.i64.wrap ((x:Int)*16)=(x:Int)*16:=by rw [IntKind.wrap_i64];omega
                     have j1:(0:Int)<=(k:Int)+1:=by omega
                     have j2:(0:Int)<=(k:Int)+2:=by omega
                     have t1:((k:Int)+1).toNat=k+1:=by omega
                     have t2:((k:Int)+2).toNat=k+2:=by omega
                     have D0:IntKind.i64.wrap ((k:Int)+1)=(k:Int)+1:=by rw [IntKind.wrap_i64];omega
                     have C5:IntKind.i64.wrap ((k:Int)+2)=(k:Int)+2:=by rw [IntKind.wrap_i64];omega
                     clear s u b
                     go_region_held3 (fun _=>True) (trivial)
                      (first
                        | (go_at_call 195;(with_reducible refine (digit_c _ _).mono ?_);rintro e w1 ⟨rfl,a⟩;replace C:=C.call a;replace A:=A.trans (a.mono A.size))
                        | (go_at_call 143;(with_reducible refine (Ic w.heap.size w.heap.size acc z _ C (by omega) A.size).mono ?_);rintro e w3 ⟨rfl,hu,B3⟩))
                     all_goals go_wp2_with fail
                     all_goals go_roundw
                     all_goals first | (simp [intOf];omega) | exact t.out (k+3) z _ _ (by omega) (by omega) (by go_num) N.out hu (A.trans B3)
               · have R:decide ((k:Int)+2<(l.length:Int))=false:=aC (by omega);have j:l.drop (k+1+1)=[]:=bM (by omega);have p:Hid (RdS.readS l=none):=hZ9 (m.out (by rw [P.out,n.out,L.out,j,RdS.Fq _ v.out]));clear j;go_wp2_with fail;refine (b _).mono ?_;rintro e w0 ⟨rfl,rfl⟩;go_wp2_with fail;go_ret2;exact BV.none p.out hb
           · have A0:decide ((k:Int)+1<(l.length:Int))=false:=aC (by omega);have R:decide ((k:Int)+2<(l.length:Int))=false:=aC (by omega);have j:l.drop (k+1)=[]:=bM (by omega);have p:Hid (RdS.readS l=none):=hZ9 (m.out (by rw [P.out,n.out,j,RdS.Iu]));clear j;go_wp2_with fail;go_ret2;exact BV.none p.out hb
         · have n:=hZ9 h92;have B6:((c.toNat:Int) !=92)=true:=by rw [fK];exact fun h=>n.out (Di rfl h)
           clear h92;have X:(l.drop (k+1)).isEmpty=decide (k+1=l.length):=by rw [bS,dA,eW,az];omega
           have B:Hid (RdS.Dk false (decide (k+1=l.length)) c=true->RdS.readS l=none):=hZ9 (fun h=>m.out (by rw [P.out];exact RdS.JA n.out (by rw [X];exact h)));have A3:Hid (RdS.Dk false (decide (k+1=l.length)) c=false->RdS.Az false (l.drop k)=(RdS.Az false (l.drop (k+1))).map (c :: ·)):=hZ9 (fun h=>by rw [P.out];exact RdS.Ii n.out (by rw [X];exact h));have el:((k:Int)==(l.length:Int) - 1)=decide (k+1=l.length):=by rw [bS,af,az];omega
           have J:Hid (∀last,RdS.Dk false last c=(RdS.Av c||c==0||(c==32&&last))):=hZ9 (fun last=>by unfold RdS.Dk;simp);clear X;generalize decide (k+1=l.length)=ql at*;by_cases O:c=0
           · have ez:((c.toNat:Int)==0)=true:=by rw [O];rfl
             have p:Hid (RdS.readS l=none):=hZ9 (B.out (by rw [J.out,O];simp));clear O;go_wp2_with fail;go_ret2;exact BV.none p.out hb
           · have HZ:=hZ9 O;have ez:((c.toNat:Int)==0)=false:=aV.2 (fun h=>HZ.out (Di rfl h));clear O;have b:=fun w=>strings_IndexByte ⟨#[44,43,34,92,60,62,59]⟩ (c.toNat:Int) w;have G:(⟨#[44,43,34,92,60,62,59]⟩:ByteArray).data.toList=RdS.Es:=rfl;have I:((c.toNat:Int).toNat.toUInt8)=c:=by rw [Int.toNat_natCast];exact ck
             rw [G,I] at b;clear G I;have F:=hZ9 (LL c);generalize Lib.indexByte RdS.Es c=ix at*;replace b:=fun w=>(b w).mono (fun e w' (h:_/\_)=>(⟨h.1,h.2.symm⟩:e=.returned (.int .i64 ix)/\w=w'));by_cases o:0<=ix
             · have p:Hid (RdS.readS l=none):=hZ9 (B.out (by rw [J.out,<-F.out,aL o];simp));go_wp2_with fail;refine (b _).mono ?_;rintro e w0 ⟨rfl,rfl⟩;go_wp2_with fail;go_ret2;exact BV.none p.out hb
             · have Q:decide (0<=ix)=false:=aC o;have HS:Hid (RdS.Av c=false):=hZ9 (by rw [<-F.out];exact Q);clear o;by_cases g:c=32
               · have W:((c.toNat:Int)==32)=true:=by rw [g];rfl
                 cases ql with
                 | true=>have p:Hid (RdS.readS l=none):=hZ9 (B.out (by rw [J.out,g];simp));clear g;go_wp2_with fail;refine (b _).mono ?_;rintro e w0 ⟨rfl,rfl⟩;go_wp2_with fail;go_ret2;exact BV.none p.out hb
                 | false=>
                  have N:=hZ9 (A3.out (by rw [J.out,HS.out,g];rfl));clear g;go_wp2_with fail;refine (b _).mono ?_;rintro e w0 ⟨rfl,rfl⟩;go_wp2_with fail;refine (Ic w.heap.size w.heap.size acc c _ q (by omega) (by omega)).mono ?_;rintro e w1 ⟨rfl,hu,a⟩;go_wp2_with fail;go_roundw
                  case rel=>exact t.out (k+1) c _ _ (by omega) (by omega) (by go_num) N.out hu (hb.trans a)
                  case measure=>simp [intOf];omega
               · have A7:=hZ9 g;have W:((c.toNat:Int)==32)=false:=aV.2 (fun h=>A7.out (Di rfl h));have N:=hZ9 (A3.out (by rw [J.out,HS.out,show (c==0)=false from by simpa using HZ.out,show (c==32)=false from by simpa using A7.out];rfl));clear g;go_wp2_with fail;refine (b _).mono ?_;rintro e w0 ⟨rfl,rfl⟩;go_wp2_with fail;refine (Ic w.heap.size w.heap.size acc c _ q (by omega) (by omega)).mono ?_;rintro e w1 ⟨rfl,hu,a⟩;go_wp2_with fail;go_roundw
                 case rel=>exact t.out (k+1) c _ _ (by omega) (by omega) (by go_num) N.out hu (hb.trans a)
                 case measure=>simp [intOf];omega
       · have j:l.drop k=[]:=bM (by omega);have p:Hid (RdS.readS l=some acc):=hZ9 (by rw [Z.out,j];simp [RdS.Az]);have Y:=Builder_String_any w.heap.size w.heap.size acc wr (by first | exact q | simpa [Bld,Ai,Lib.byteCells] using q) (by omega);clear j;go_wp2_with fail;refine Y.mono ?_;rintro e w1 ⟨rfl,a⟩;go_wp2_with fail;go_ret2;exact ⟨by rw [p.out];rfl,hb.trans a⟩
end
section
open Go.RowKit
open FiS (Fi)
def GI (C b:Nat) (l:List UInt8) (w:World):Prop:=b<C/\C<=w.heap.size/\∃p v,(p=.pointer none\/p=.pointer (some ⟨b,0,none⟩))/\w.heap[b]?=some (.cells #[p,v] 159 (0,0))/\OwnB w C v l
def BG (C b:Nat) (w w':World):Prop:=Below b w w'/\∀k,k<C->k≠b->w'.heap[k]?=w.heap[k]?
theorem BG.refl (C b:Nat) (w:World):BG C b w w:=⟨Below.refl _ _,fun _ _ _=>rfl⟩
theorem BG.trans {C b:Nat} {u v w:World} (h:BG C b u v) (h2:BG C b v w):BG C b u w:=⟨h.1.trans h2.1,fun k hk hb=>(h2.2 k hk hb).trans (h.2 k hk hb)⟩
theorem BG.of_below {C b:Nat} {w w':World} (h:Below C w w') (hb:b<=C):BG C b w w':=⟨h.mono hb,fun k hk _=>h.block k hk⟩
theorem BG.alloc {C b:Nat} {w w':World} (h:BG C b w w') (hb:b<=C) (hC:C<=w'.heap.size) (o:Obj):BG C b w (w'.alloc o):=h.trans (BG.of_below ((Af w' o).mono hC) hb)
theorem BG.drew {C b:Nat} {w w':World} (h:BG C b w w'):BG C b w w'.drew:=⟨h.1.drew,h.2⟩
theorem BG.setCell {C b:Nat} {w w':World} (h:BG C b w w') (i:Nat) (u:Value):BG C b w (w'.setCell ⟨b,i,none⟩ u):=⟨h.1.setCell (p:=⟨b,i,none⟩) (aA _) u,fun k hk hb=>by
 rw [Below.heap_setCell _ _ _ _ hb];exact h.2 k hk hb⟩
theorem BG.bytes {C b g:Nat} {w w':World} {l:List UInt8} (h:BG C b w w') (i:g<C) (d:g≠b) (c:BytesIn w g l):BytesIn w' g l:=by have e:=h.2 g i d;refine ⟨ae c.1 h.1.size,fun j f=>⟨(World.cell?_of_block (a:=⟨g,j,none⟩) e).trans (c.cell f),?_⟩⟩;have h2:=c.thaw f;unfold World.frozen? at h2⊢;rw [e];exact h2
theorem GI.call {C b:Nat} {l:List UInt8} {w w':World} (h:GI C b l w) (hb:Below w.heap.size w w'):GI C b l w':=by obtain ⟨h1,h2,p,v,hp,h3,h4⟩:=h;exact ⟨h1,aY h2 hb.size,p,v,hp,(hb.block b (by omega)).trans h3,h4.call hb⟩
theorem GI.alloc {C b:Nat} {l:List UInt8} {w:World} (h:GI C b l w) (o:Obj):GI C b l (w.alloc o):=h.call (Af w o)
theorem GI.drew {C b:Nat} {l:List UInt8} {w:World} (h:GI C b l w):GI C b l w.drew:=h.call ((Below.refl _ _).drew)
theorem GI.bld {C b:Nat} {l:List UInt8} {w:World} (h:GI C b l w):Bld b b l w:=by
 obtain ⟨h1,h2,p,v,hp,h3,h4⟩:=h;have c:v.ownBlock≠some b:=fun e=>by have:=(World.ownsRow.lt h4 b e).1;omega
 have a:w.ownsRow b 5 1 v (l.map Ai).length (l.map Ai):=by rw [b7];exact World.ownsRow.mono h4 (by omega)
 rcases hp with rfl | rfl
 · exact .inl ⟨aA _,v,h3,a,c⟩
 · exact .inr ⟨aA _,v,h3,a,c⟩
theorem GI.fresh {w w':World} (hb:Below (w.heap.size+1) (w.alloc (.cells #[.pointer none,.slice none 0 0] 159)) w'):GI w'.heap.size w.heap.size [] w':=by
 have a:=hb.size;refine ⟨by simp at a;omega,aA _,_,_,.inl rfl,?_,OwnB.empty _ _⟩;rw [hb.block _ (by omega)];show (w.heap.push _)[w.heap.size]?=_
 simp
theorem GI.stored {C b:Nat} {l n:List UInt8} {w w2:World} {v g:Value} (j:b<C) (hC:C<=w.heap.size) (i:w.heap[b]?=some (.cells #[.pointer (some ⟨b,0,none⟩),v] 159 (0,0))) (d:OwnB w C v n)
  (m:w.grownBy w2 v.ownBlock) (c:OwnB w2 C g l):w2.cell? ⟨b,0,none⟩=some (.pointer (some ⟨b,0,none⟩))/\w2.cell? ⟨b,1,none⟩=some v/\w2.frozen? ⟨b,1,none⟩=false/\GI C b l (w2.setCell ⟨b,1,none⟩ g):=by
 have h:v.ownBlock≠some b:=fun e=>by have:=(World.ownsRow.lt d b e).1;omega
 have f:g.ownBlock≠some b:=fun e=>by have:=(World.ownsRow.lt c b e).1;omega
 have a:w2.heap[b]?=some (.cells #[.pointer (some ⟨b,0,none⟩),v] 159 (0,0)):=by rw [m.block b (by omega) (fun e=>h e.symm)];exact i
 refine ⟨by rw [Lib.cell_of_heap a];rfl,by rw [Lib.cell_of_heap a];rfl,Lib.frozen_of_heap a 1,j,?_,.pointer (some ⟨b,0,none⟩),g,.inr rfl,by simp [World.setCell,dK,a],?_⟩
 · have:=m.size;simp [World.setCell];omega
 · exact World.ownsRow.kept c (row:=some b) ⟨rfl,rfl,rfl,by simp [World.setCell],fun k _ hk=>Below.heap_setCell _ _ _ _ (fun e=>hk (by simp [e]))⟩ (gb f)
end
section
open Go.RowKit
attribute [local go_sem ↓] Go.wp_at_zero Go.wp_at_succ
def NJ (l:List UInt8) (w:World) (e:Ending) (w':World):Prop:=e=.returned (.tuple #[.string ⟨((FiS.Gp l).getD []).toArray⟩,.bool (FiS.Gp l).isSome])/\Below w.heap.size w w'
theorem NJ.none {l:List UInt8} {w w':World} (h:FiS.Gp l=none) (hb:Below w.heap.size w w'):NJ l w (.returned (.tuple #[.string ⟨#[]⟩,.bool false])) w':=by unfold NJ;rw [h];exact ⟨rfl,hb⟩
theorem NJ.some {l acc:List UInt8} {w w':World} (h:FiS.Gp l=some acc) (hb:Below w.heap.size w w'):NJ l w (.returned (.tuple #[.string ⟨acc.toArray⟩,.bool true])) w':=by unfold NJ;rw [h];exact ⟨rfl,hb⟩
end
section
open Go.Shelf Go.RowKit Go.Lib Go.Sort Go.Proofs
def ren:Ren:={ f:=fun x=>if x=20 then 218 else x,t:=fun x=>match x with | 0=>0 | 3=>3 | 4=>4 | 22=>151 | 24=>190 | 25=>215 | x=>x,g:=fun x=>x }
theorem Aej:Bears prog (ren.f 20) (SlBodyF.n20 ren):=⟨"slices.insertionSortCmpFunc[verger/rdn.AVA]",by kernel_rfl,by kernel_rfl⟩
theorem YA:SlLaysF0.n20 prog ren where
 mixed:=by kernel_rfl
 f20:=Aej
 t0:=underlying0
 a0:=fun w=>by kernel_rfl
 z0:=fun w=>by kernel_rfl
 v0:=fun w=>by kernel_rfl
 t3:=underlying3
 a3:=fun w=>by kernel_rfl
 z3:=fun w=>by kernel_rfl
 v3:=fun w=>by kernel_rfl
 t4:=underlying4
 a4:=fun w=>by kernel_rfl
 z4:=fun w=>by kernel_rfl
 v4:=fun w=>by kernel_rfl
 t22:=underlying151
 a22:=fun w=>by kernel_rfl
 z22:=fun w=>by kernel_rfl
 v22:=fun w=>by kernel_rfl
 t25:=underlying215
 a25:=fun w=>by kernel_rfl
 z25:=fun w=>by kernel_rfl
 v25:=fun w=>by kernel_rfl
def AO (p:RdS.Pr):List Value:=[Ac p.1,Ac p.2]
theorem WG (p:RdS.Pr):(AO p).length=2:=rfl
theorem Aek (p:RdS.Pr):∀v ∈ AO p,v.oneCell'=true:=by intro v a;simp only [AO,ay,dU,fQ] at a;rcases a with rfl | rfl <;> rfl
def cfP (x y:RdS.Pr):Int:=Lib.compareBytes x.1 y.1
theorem Ae0 (x y:RdS.Pr) (W:World):Calls prog 171 #[.agg #[.string ⟨x.1.toArray⟩,.string ⟨x.2.toArray⟩],.agg #[.string ⟨y.1.toArray⟩,.string ⟨y.2.toArray⟩]] W fun e w'=>e=.returned (.int .i64 (cfP x y))/\∃q b,w'=grow (W.drewN q) b:=by
 have a:=fun c=>strings_Compare ⟨x.1.toArray⟩ ⟨y.1.toArray⟩ c;change ∀W,Calls prog 172 _ W (fun e w2=>e=.returned (.int .i64 (cfP x y))/\w2=W) at a;generalize cfP x y=r at*;go_enter func171,ntmps171;go_wp2_with (go_at_call 172;refine (a _).mono ?_;rintro e w1 ⟨rfl,rfl⟩)
 go_ret;exact ⟨rfl,0,_,by rw [alloc_eq_grow,alloc_eq_grow,grow_grow];rfl⟩
theorem Afy (blk off size:Nat) (w:World):CmpLays prog 171 #[] AO 2 cfP blk off size w:=fun _ _ _ _ x y=>Ae0 x y _
theorem AcD:∀args w,(callFunc 171 args).run prog w=.ok (.enter 171 args) w:=enters_of func171 (by kernel_rfl) rfl
def Hm:Value:=.func (.func 171) #[] #[]
theorem Ta (blk off cap a b:Nat) (d:Array RdS.Pr) (w:World) (hH:HoldsK AO 2 w blk off d) (hblk:blk<w.heap.size) (c:a<=b) (hb:b<=d.size) (hsz:d.size<1000000000):
  Calls prog 218 #[.slice (some ⟨blk,off,none⟩) d.size cap,.int .i64 a,.int .i64 b,Hm] w fun e w'=>
   e=.returned (.tuple #[])/\∃n os,w'=sortWorldK AO 2 w blk off n (Sort.insertionSort (ltOf cfP) d a b) os:=
 AnyQ.insertionSortCmpFunc YA 2 isAgg190 sizeOf190 AO WG Aek cfP 171 #[] blk off cap a b d w AcD (Afy blk off d.size w) hH hblk c hb (by omega)
end
section
open Go.Shelf Go.RowKit Go.Lib Go.Sort Go.Proofs
def SW (w0:World) (blk off n:Nat) (w:World):Prop:=∃(m:Nat) (a:Array RdS.Pr) (os:Array Obj),a.size=n/\w=sortWorldK AO 2 w0 blk off m a os
def Swp (w0:World) (blk off n:Nat) (e:Ending) (w:World):Prop:=e=.returned (.tuple #[])/\SW w0 blk off n w
theorem exch (w0:World) (blk off:Nat) (d:Array RdS.Pr) (hH:HoldsK AO 2 w0 blk off d) (hblk:blk<w0.heap.size) (m:Nat) (a:Array RdS.Pr) (os:Array Obj) (p:a.size=d.size) (i j:Nat) (g:i<a.size) (h:j<a.size) (o:i≠j):
  ∃(A B:Nat) (n k y1 y2:List UInt8),(off+i*2=A/\off+j*2=B)/\(¬A=B/\¬B=A/\¬A+1=B/\¬A=B+1/\¬B=A+1/\¬B+1=A)/\
   ((sortWorldK AO 2 w0 blk off m a os).cell? ⟨blk,A,none⟩=some (.string ⟨n.toArray⟩)/\(sortWorldK AO 2 w0 blk off m a os).cell? ⟨blk,A+1,none⟩=some (.string ⟨k.toArray⟩)/\
    (sortWorldK AO 2 w0 blk off m a os).cell? ⟨blk,B,none⟩=some (.string ⟨y1.toArray⟩)/\(sortWorldK AO 2 w0 blk off m a os).cell? ⟨blk,B+1,none⟩=some (.string ⟨y2.toArray⟩))/\
   ((sortWorldK AO 2 w0 blk off m a os).frozen? ⟨blk,A,none⟩=false/\(sortWorldK AO 2 w0 blk off m a os).frozen? ⟨blk,A+1,none⟩=false/\
    (sortWorldK AO 2 w0 blk off m a os).frozen? ⟨blk,B,none⟩=false/\(sortWorldK AO 2 w0 blk off m a os).frozen? ⟨blk,B+1,none⟩=false)/\
   (((((sortWorldK AO 2 w0 blk off m a os).drew.setCell ⟨blk,A,none⟩ (.string ⟨y1.toArray⟩)).setCell ⟨blk,A+1,none⟩ (.string ⟨y2.toArray⟩)).setCell ⟨blk,B,none⟩ (.string ⟨n.toArray⟩)).setCell ⟨blk,B+1,none⟩ (.string ⟨k.toArray⟩))=sortWorldK AO 2 w0 blk off (m+1) (swp a i j) os:=by
 have b:HoldsK AO 2 (sortWorldK AO 2 w0 blk off m a os) blk off a:=holdsK_sortWorldK_c AO 2 w0 blk off d a m os hH hblk p;have ci:=b.cell g (c:=0) (by decide);have f:=b.cell g (c:=1) (by decide);have l:=b.cell h (c:=0) (by decide);have e:=b.cell h (c:=1) (by decide);exact ⟨off+i*2,off+j*2,a[i]!.1,a[i]!.2,a[j]!.1,a[j]!.2,⟨rfl,rfl⟩,by omega,⟨ci.1,f.1,l.1,e.1⟩,⟨ci.2,f.2,l.2,e.2⟩,
  sortWorldK_swp_c AO 2 w0 blk off WG m a os hblk i j g h⟩
theorem XE (w0:World) (blk off cap:Nat) (d:Array RdS.Pr) (hH:HoldsK AO 2 w0 blk off d) (hblk:blk<w0.heap.size) (hsz:d.size<1000000000) (a b n:Nat) (C:a+n<=b) (hb:b+n<=d.size) (w:World) (r:SW w0 blk off d.size w):
  Calls prog 270 #[.slice (some ⟨blk,off,none⟩) d.size cap,.int .i64 a,.int .i64 b,.int .i64 n,Hm] w (Swp w0 blk off d.size):=by
 obtain ⟨m0,p,os0,k,rfl⟩:=r;have hex:=exch w0 blk off d hH hblk;have l:=hZ9 hex;clear hex hH;generalize q:d.size=sz at*;have J:=hZ9 q;clear q;go_enter func270,ntmps270
 go_wp2
 go_loopg [10] n (fun g1 u wr=>∃(i m:Nat) (e:Array RdS.Pr) (os:Array Obj),u=.int .i64 i/\i<=n/\n - i<=g1/\e.size=sz/\wr=sortWorldK AO 2 w0 blk off m e os)
 case atStart=>exact ⟨0,m0,p,os0,rfl,aR _,by omega,k,rfl⟩
 case round=>
  obtain ⟨i,m,e,os,rfl,t,s,f,rfl⟩:=hrel;by_cases o:i<n
  · have j:(i:Int)<(n:Int):=by omega
    obtain ⟨A,B,N,L,y1,y2,⟨hA,hB⟩,⟨H,F,n3,n4,n5,n6⟩,⟨c1,c2,c3,c4⟩,⟨f1,f2,G,f4⟩,c⟩:=l.out m e os f (a+i) (b+i) (by omega) (by omega) (by omega);have y:IntKind.i64.wrap ((a:Int)+(i:Int))=(a:Int)+(i:Int):=by rw [IntKind.wrap_i64];omega
    have E:IntKind.i64.wrap ((b:Int)+(i:Int))=(b:Int)+(i:Int):=by rw [IntKind.wrap_i64];omega
    have z:((a:Int)+(i:Int)).toNat=a+i:=by omega
    have K:((b:Int)+(i:Int)).toNat=b+i:=by omega
    have M:(a:Int)+(i:Int)<(sz:Int):=by omega
    have I:(b:Int)+(i:Int)<(sz:Int):=by omega
    have v:(0:Int)<=(a:Int)+(i:Int):=by omega
    have x:(0:Int)<=(b:Int)+(i:Int):=by omega
    have h:=hZ9 c;clear c;have g:Hid ((swp e (a+i) (b+i)).size=sz):=hZ9 (by rw [size_swp];exact f);generalize swp e (a+i) (b+i)=dk2 at*;generalize sortWorldK AO 2 w0 blk off m e os=wq at*
    go_wp2
    go_region
    all_goals go_wp2
    go_roundg (n - (i+1))
    case measure=>omega
    case rel=>exact ⟨i+1,m+1,dk2,os,by go_num,o,by omega,g.out,h.out⟩
  · have j:¬(i:Int)<(n:Int):=by omega
    go_wp2
    go_end0
    exact ⟨rfl,m,e,os,f,rfl⟩
theorem Ael (w0:World) (blk off cap:Nat) (d:Array RdS.Pr) (hH:HoldsK AO 2 w0 blk off d) (hblk:blk<w0.heap.size) (hsz:d.size<1000000000) (a m b:Nat) (K:a<m) (M:m<b) (hb:b<=d.size) (w:World) (k:SW w0 blk off d.size w):
  Calls prog 249 #[.slice (some ⟨blk,off,none⟩) d.size cap,.int .i64 a,.int .i64 m,.int .i64 b,Hm] w (Swp w0 blk off d.size):=by
 have g:=fun a b n h1 h2 w k=>XE w0 blk off cap d hH hblk hsz a b n h1 h2 w k;unfold Swp Hm at g;have f:=hZ9 g;clear g hH;generalize I:d.size=sz at*;clear I;have J:=hZ9 k;clear k;obtain ⟨i0,B⟩:∃i0:Nat,(m:Int) - (a:Int)=(i0:Int):=⟨m - a,by omega⟩
 obtain ⟨h,G⟩:∃h:Nat,(b:Int) - (m:Int)=(h:Int):=⟨b - m,by omega⟩
 have H:IntKind.i64.wrap (i0:Int)=(i0:Int):=by rw [IntKind.wrap_i64];omega
 have F:IntKind.i64.wrap (h:Int)=(h:Int):=by rw [IntKind.wrap_i64];omega
 unfold Hm;go_enter func249,ntmps249
 go_wp2
 go_loopg [10,11] (i0+h) (fun g1 E N wr=>∃(i j:Nat),E=.int .i64 i/\N=.int .i64 j/\1<=i/\1<=j/\i<=m/\m+j<=sz/\i+j<=g1/\Hid (SW w0 blk off sz wr))
 case atStart=>exact ⟨i0,h,rfl,rfl,by omega,by omega,by omega,by omega,aA _,J⟩
 case round=>
  obtain ⟨i,j,rfl,rfl,u,t,v,x,C,y⟩:=hrel;obtain ⟨p,hp⟩:∃p:Nat,(m:Int) - (i:Int)=(p:Int):=⟨m - i,by omega⟩
  have wp:IntKind.i64.wrap (p:Int)=(p:Int):=by rw [IntKind.wrap_i64];omega
  by_cases o:i=j
  · subst o;have l:((i:Int) !=(i:Int))=false:=by simp
    go_wp2_with (go_at_call 270;refine (f.out p m i (by omega) (by omega) _ y.out).mono ?_;rintro e w1 ⟨rfl,c⟩)
    go_end0
    exact ⟨rfl,c⟩
  · have l:((i:Int) !=(j:Int))=true:=by simp;omega
    by_cases L:j<i
    · have z:(j:Int)<(i:Int):=by omega
      obtain ⟨q,A⟩:∃q:Nat,(i:Int) - (j:Int)=(q:Int):=⟨i - j,by omega⟩
      have O:IntKind.i64.wrap (q:Int)=(q:Int):=by rw [IntKind.wrap_i64];omega
      go_wp2_with (go_at_call 270;refine (f.out p m j (by omega) (by omega) _ y.out).mono ?_;rintro e w1 ⟨rfl,c⟩)
      go_roundg (q+j)
      case measure=>omega
      case rel=>exact ⟨q,j,rfl,rfl,by omega,t,by omega,x,aA _,hZ9 c⟩
    · have z:¬(j:Int)<(i:Int):=by omega
      obtain ⟨q,A⟩:∃q:Nat,(j:Int) - (i:Int)=(q:Int):=⟨j - i,by omega⟩
      have O:IntKind.i64.wrap (q:Int)=(q:Int):=by rw [IntKind.wrap_i64];omega
      obtain ⟨s,P⟩:∃s:Nat,(m:Int)+(j:Int)=(s:Int):=⟨m+j,by omega⟩
      have ws:IntKind.i64.wrap (s:Int)=(s:Int):=by rw [IntKind.wrap_i64];omega
      obtain ⟨r,Q⟩:∃r:Nat,(s:Int) - (i:Int)=(r:Int):=⟨s - i,by omega⟩
      have wr:IntKind.i64.wrap (r:Int)=(r:Int):=by rw [IntKind.wrap_i64];omega
      go_wp2_with (go_at_call 270;refine (f.out p r i (by omega) (by omega) _ y.out).mono ?_;rintro e w1 ⟨rfl,c⟩)
      go_roundg (i+q)
      case measure=>omega
      case rel=>exact ⟨i,q,rfl,rfl,u,by omega,v,by omega,aA _,hZ9 c⟩
end
end Go.Proofs.YtgngjfjaelgaeaaGreatDoor
