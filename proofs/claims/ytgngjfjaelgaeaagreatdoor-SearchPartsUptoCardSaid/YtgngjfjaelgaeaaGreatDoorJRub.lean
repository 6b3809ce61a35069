/- The walk of the document's 'Type'. Conditions: as stated. -/
import Derived.Test.YtgngjfjaelgaeaaGreatDoorJRua
set_option maxRecDepth 100000
namespace Go.Proofs.YtgngjfjaelgaeaaGreatDoor
open Go.Proofs.Tryz
section
open Go.RowKit
def Ar (l:List UInt8) (w:World) (e:Ending) (w':World):Prop:=e=.returned (.tuple #[.string ⟨(RuS.typeOf l).1.toArray⟩,.int .i64 (RuS.typeOf l).2])/\Below w.heap.size w w'
theorem Ar.mk' {l:List UInt8} {w w':World} {r:List UInt8 × Int} (h:RuS.typeOf l=r) (hb:Below w.heap.size w w'):Ar l w (.returned (.tuple #[.string ⟨r.1.toArray⟩,.int .i64 r.2])) w':=by unfold Ar;rw [h];exact ⟨rfl,hb⟩
theorem Cf {l m:List UInt8} {r:List UInt8 × Int} (a:RuS.lower l=m) (h:RuS.typeM m=r):RuS.typeOf l=r:=by unfold RuS.typeOf;rw [a];exact h
theorem Aca (s:ByteArray) (d:s.size<=9223372036854775807) (m:List UInt8) (c:RuS.lower s.data.toList=m) (h0:(m==[111,98,106,101,99,116,99,108,97,115,115])=true) (w:World):Calls prog 66 #[.string s] w (Ar s.data.toList w):=by have b:=fun w=>BF s d w;unfold Ce at b;rw [c] at b;have HR:=hZ9 (Cf c (show RuS.typeM m=([111,98,106,101,99,116,67,108,97,115,115],1) from by rw [af.1 h0];decide+kernel));clear c;go_enter func66,ntmps66;go_wp2_with fail;refine (b _).mono ?_;rintro e w1 ⟨rfl,a⟩;go_wp2_with fail;go_ret2;exact Ar.mk' HR.out a
theorem Acb (s:ByteArray) (f:s.size<=9223372036854775807) (m:List UInt8) (c:RuS.lower s.data.toList=m) (h0:(m==[111,98,106,101,99,116,99,108,97,115,115])=false) (h1:(m==[99,110])=true) (w:World):Calls prog 66 #[.string s] w (Ar s.data.toList w):=by have a:=fun w=>BF s f w;unfold Ce at a;rw [c] at a;have HR:=hZ9 (Cf c (show RuS.typeM m=([99,110],1) from by rw [af.1 h1];decide+kernel));have g:=hZ9 (af.1 h1);clear c;go_enter func66,ntmps66;go_wp2_with fail;refine (a _).mono ?_;rintro e w1 ⟨rfl,b⟩;go_wp2_with fail;refine (a _).mono ?_;rintro e w2 ⟨rfl,d⟩;go_wp2_with fail;go_ret2;have:=Ar.mk' HR.out (Aa b d);rw [g.out];exact this
theorem Acd (s:ByteArray) (f:s.size<=9223372036854775807) (m:List UInt8) (c:RuS.lower s.data.toList=m) (h0:(m==[111,98,106,101,99,116,99,108,97,115,115])=false) (h1:(m==[99,110])=false) (h2:(m==[111,117])=true) (w:World):Calls prog 66 #[.string s] w (Ar s.data.toList w):=by have a:=fun w=>BF s f w;unfold Ce at a;rw [c] at a;have HR:=hZ9 (Cf c (show RuS.typeM m=([111,117],1) from by rw [af.1 h2];decide+kernel));have g:=hZ9 (af.1 h2);clear c;go_enter func66,ntmps66;go_wp2_with fail;refine (a _).mono ?_;rintro e w1 ⟨rfl,b⟩;go_wp2_with fail;refine (a _).mono ?_;rintro e w2 ⟨rfl,d⟩;go_wp2_with fail;go_ret2;have:=Ar.mk' HR.out (Aa b d);rw [g.out];exact this
theorem Ace (s:ByteArray) (f:s.size<=9223372036854775807) (m:List UInt8) (c:RuS.lower s.data.toList=m) (h0:(m==[111,98,106,101,99,116,99,108,97,115,115])=false) (h1:(m==[99,110])=false) (h2:(m==[111,117])=false) (h3:(m==[111])=true) (w:World):Calls prog 66 #[.string s] w (Ar s.data.toList w):=by have a:=fun w=>BF s f w;unfold Ce at a;rw [c] at a;have HR:=hZ9 (Cf c (show RuS.typeM m=([111],1) from by rw [af.1 h3];decide+kernel));have g:=hZ9 (af.1 h3);clear c;go_enter func66,ntmps66;go_wp2_with fail;refine (a _).mono ?_;rintro e w1 ⟨rfl,b⟩;go_wp2_with fail;refine (a _).mono ?_;rintro e w2 ⟨rfl,d⟩;go_wp2_with fail;go_ret2;have:=Ar.mk' HR.out (Aa b d);rw [g.out];exact this
theorem Acf (s:ByteArray) (f:s.size<=9223372036854775807) (m:List UInt8) (c:RuS.lower s.data.toList=m) (h0:(m==[111,98,106,101,99,116,99,108,97,115,115])=false) (h1:(m==[99,110])=false) (h2:(m==[111,117])=false) (h3:(m==[111])=false) (h4:(m==[100,99])=true) (w:World):Calls prog 66 #[.string s] w (Ar s.data.toList w):=by have a:=fun w=>BF s f w;unfold Ce at a;rw [c] at a;have HR:=hZ9 (Cf c (show RuS.typeM m=([100,99],1) from by rw [af.1 h4];decide+kernel));have g:=hZ9 (af.1 h4);clear c;go_enter func66,ntmps66;go_wp2_with fail;refine (a _).mono ?_;rintro e w1 ⟨rfl,b⟩;go_wp2_with fail;refine (a _).mono ?_;rintro e w2 ⟨rfl,d⟩;go_wp2_with fail;go_ret2;have:=Ar.mk' HR.out (Aa b d);rw [g.out];exact this
theorem Acg (s:ByteArray) (f:s.size<=9223372036854775807) (m:List UInt8) (c:RuS.lower s.data.toList=m) (h0:(m==[111,98,106,101,99,116,99,108,97,115,115])=false) (h1:(m==[99,110])=false) (h2:(m==[111,117])=false) (h3:(m==[111])=false) (h4:(m==[100,99])=false) (h5:(m==[117,105,100])=true) (w:World):Calls prog 66 #[.string s] w (Ar s.data.toList w):=by have a:=fun w=>BF s f w;unfold Ce at a;rw [c] at a;have HR:=hZ9 (Cf c (show RuS.typeM m=([117,105,100],1) from by rw [af.1 h5];decide+kernel));have g:=hZ9 (af.1 h5);clear c;go_enter func66,ntmps66;go_wp2_with fail;refine (a _).mono ?_;rintro e w1 ⟨rfl,b⟩;go_wp2_with fail;refine (a _).mono ?_;rintro e w2 ⟨rfl,d⟩;go_wp2_with fail;go_ret2;have:=Ar.mk' HR.out (Aa b d);rw [g.out];exact this
theorem Ach (s:ByteArray) (f:s.size<=9223372036854775807) (m:List UInt8) (c:RuS.lower s.data.toList=m) (h0:(m==[111,98,106,101,99,116,99,108,97,115,115])=false) (h1:(m==[99,110])=false) (h2:(m==[111,117])=false) (h3:(m==[111])=false) (h4:(m==[100,99])=false) (h5:(m==[117,105,100])=false) (h6:(m==[100,101,115,99,114,105,112,116,105,111,110])=true) (w:World):Calls prog 66 #[.string s] w (Ar s.data.toList w):=by have a:=fun w=>BF s f w;unfold Ce at a;rw [c] at a;have HR:=hZ9 (Cf c (show RuS.typeM m=([100,101,115,99,114,105,112,116,105,111,110],1) from by rw [af.1 h6];decide+kernel));have g:=hZ9 (af.1 h6);clear c;go_enter func66,ntmps66;go_wp2_with fail;refine (a _).mono ?_;rintro e w1 ⟨rfl,b⟩;go_wp2_with fail;refine (a _).mono ?_;rintro e w2 ⟨rfl,d⟩;go_wp2_with fail;go_ret2;have:=Ar.mk' HR.out (Aa b d);rw [g.out];exact this
theorem Aci (s:ByteArray) (f:s.size<=9223372036854775807) (m:List UInt8) (c:RuS.lower s.data.toList=m) (h0:(m==[111,98,106,101,99,116,99,108,97,115,115])=false) (h1:(m==[99,110])=false) (h2:(m==[111,117])=false) (h3:(m==[111])=false) (h4:(m==[100,99])=false) (h5:(m==[117,105,100])=false) (h6:(m==[100,101,115,99,114,105,112,116,105,111,110])=false) (h7:(m==[109,97,105,108])=true) (w:World):Calls prog 66 #[.string s] w (Ar s.data.toList w):=by have a:=fun w=>BF s f w;unfold Ce at a;rw [c] at a;have HR:=hZ9 (Cf c (show RuS.typeM m=([109,97,105,108],1) from by rw [af.1 h7];decide+kernel));have g:=hZ9 (af.1 h7);clear c;go_enter func66,ntmps66;go_wp2_with fail;refine (a _).mono ?_;rintro e w1 ⟨rfl,b⟩;go_wp2_with fail;refine (a _).mono ?_;rintro e w2 ⟨rfl,d⟩;go_wp2_with fail;go_ret2;have:=Ar.mk' HR.out (Aa b d);rw [g.out];exact this
theorem Acj (s:ByteArray) (d:s.size<=9223372036854775807) (m:List UInt8) (c:RuS.lower s.data.toList=m) (h0:(m==[111,98,106,101,99,116,99,108,97,115,115])=false) (h1:(m==[99,110])=false) (h2:(m==[111,117])=false) (h3:(m==[111])=false) (h4:(m==[100,99])=false) (h5:(m==[117,105,100])=false) (h6:(m==[100,101,115,99,114,105,112,116,105,111,110])=false) (h7:(m==[109,97,105,108])=false) (h8:(m==[117,115,101,114,112,97,115,115,119,111,114,100])=true) (w:World):Calls prog 66 #[.string s] w (Ar s.data.toList w):=by have b:=fun w=>BF s d w;unfold Ce at b;rw [c] at b;have HR:=hZ9 (Cf c (show RuS.typeM m=([117,115,101,114,80,97,115,115,119,111,114,100],2) from by rw [af.1 h8];decide+kernel));clear c;go_enter func66,ntmps66;go_wp2_with fail;refine (b _).mono ?_;rintro e w1 ⟨rfl,a⟩;go_wp2_with fail;go_ret2;exact Ar.mk' HR.out a
theorem Ack (s:ByteArray) (d:s.size<=9223372036854775807) (m:List UInt8) (c:RuS.lower s.data.toList=m) (h0:(m==[111,98,106,101,99,116,99,108,97,115,115])=false) (h1:(m==[99,110])=false) (h2:(m==[111,117])=false) (h3:(m==[111])=false) (h4:(m==[100,99])=false) (h5:(m==[117,105,100])=false) (h6:(m==[100,101,115,99,114,105,112,116,105,111,110])=false) (h7:(m==[109,97,105,108])=false) (h8:(m==[117,115,101,114,112,97,115,115,119,111,114,100])=false) (h9:(m==[114,101,102])=true) (w:World):Calls prog 66 #[.string s] w (Ar s.data.toList w):=by have b:=fun w=>BF s d w;unfold Ce at b;rw [c] at b;have HR:=hZ9 (Cf c (show RuS.typeM m=([114,101,102],2) from by rw [af.1 h9];decide+kernel));clear c;go_enter func66,ntmps66;go_wp2_with fail;refine (b _).mono ?_;rintro e w1 ⟨rfl,a⟩;go_wp2_with fail;go_ret2;exact Ar.mk' HR.out a
theorem ZR (s:ByteArray) (d:s.size<=9223372036854775807) (m:List UInt8) (c:RuS.lower s.data.toList=m) (h0:(m==[111,98,106,101,99,116,99,108,97,115,115])=false) (h1:(m==[99,110])=false) (h2:(m==[111,117])=false) (h3:(m==[111])=false) (h4:(m==[100,99])=false) (h5:(m==[117,105,100])=false) (h6:(m==[100,101,115,99,114,105,112,116,105,111,110])=false) (h7:(m==[109,97,105,108])=false) (h8:(m==[117,115,101,114,112,97,115,115,119,111,114,100])=false) (h9:(m==[114,101,102])=false) (h10:(m==[115,101,114,105,97,108,110,117,109,98,101,114])=true) (w:World):Calls prog 66 #[.string s] w (Ar s.data.toList w):=by have b:=fun w=>BF s d w;unfold Ce at b;rw [c] at b;have HR:=hZ9 (Cf c (show RuS.typeM m=([115,101,114,105,97,108,78,117,109,98,101,114],3) from by rw [af.1 h10];decide+kernel));clear c;go_enter func66,ntmps66;go_wp2_with fail;refine (b _).mono ?_;rintro e w1 ⟨rfl,a⟩;go_wp2_with fail;go_ret2;exact Ar.mk' HR.out a
theorem ZT (s:ByteArray) (d:s.size<=9223372036854775807) (m:List UInt8) (c:RuS.lower s.data.toList=m) (h0:(m==[111,98,106,101,99,116,99,108,97,115,115])=false) (h1:(m==[99,110])=false) (h2:(m==[111,117])=false) (h3:(m==[111])=false) (h4:(m==[100,99])=false) (h5:(m==[117,105,100])=false) (h6:(m==[100,101,115,99,114,105,112,116,105,111,110])=false) (h7:(m==[109,97,105,108])=false) (h8:(m==[117,115,101,114,112,97,115,115,119,111,114,100])=false) (h9:(m==[114,101,102])=false) (h10:(m==[115,101,114,105,97,108,110,117,109,98,101,114])=false) (h11:(m==[112,111,115,105,116,105,111,110])=true) (w:World):Calls prog 66 #[.string s] w (Ar s.data.toList w):=by have b:=fun w=>BF s d w;unfold Ce at b;rw [c] at b;have HR:=hZ9 (Cf c (show RuS.typeM m=([112,111,115,105,116,105,111,110],4) from by rw [af.1 h11];decide+kernel));clear c;go_enter func66,ntmps66;go_wp2_with fail;refine (b _).mono ?_;rintro e w1 ⟨rfl,a⟩;go_wp2_with fail;go_ret2;exact Ar.mk' HR.out a
theorem ZU (s:ByteArray) (d:s.size<=9223372036854775807) (m:List UInt8) (c:RuS.lower s.data.toList=m) (h0:(m==[111,98,106,101,99,116,99,108,97,115,115])=false) (h1:(m==[99,110])=false) (h2:(m==[111,117])=false) (h3:(m==[111])=false) (h4:(m==[100,99])=false) (h5:(m==[117,105,100])=false) (h6:(m==[100,101,115,99,114,105,112,116,105,111,110])=false) (h7:(m==[109,97,105,108])=false) (h8:(m==[117,115,101,114,112,97,115,115,119,111,114,100])=false) (h9:(m==[114,101,102])=false) (h10:(m==[115,101,114,105,97,108,110,117,109,98,101,114])=false) (h11:(m==[112,111,115,105,116,105,111,110])=false) (h12:(m==[97,108,105,97,115,101,100,111,98,106,101,99,116,110,97,109,101])=true) (w:World):Calls prog 66 #[.string s] w (Ar s.data.toList w):=by have b:=fun w=>BF s d w;unfold Ce at b;rw [c] at b;have HR:=hZ9 (Cf c (show RuS.typeM m=([97,108,105,97,115,101,100,79,98,106,101,99,116,78,97,109,101],5) from by rw [af.1 h12];decide+kernel));clear c;go_enter func66,ntmps66;go_wp2_with fail;refine (b _).mono ?_;rintro e w1 ⟨rfl,a⟩;go_wp2_with fail;go_ret2;exact Ar.mk' HR.out a
theorem ZV (s:ByteArray) (d:s.size<=9223372036854775807) (m:List UInt8) (c:RuS.lower s.data.toList=m) (h0:(m==[111,98,106,101,99,116,99,108,97,115,115])=false) (h1:(m==[99,110])=false) (h2:(m==[111,117])=false) (h3:(m==[111])=false) (h4:(m==[100,99])=false) (h5:(m==[117,105,100])=false) (h6:(m==[100,101,115,99,114,105,112,116,105,111,110])=false) (h7:(m==[109,97,105,108])=false) (h8:(m==[117,115,101,114,112,97,115,115,119,111,114,100])=false) (h9:(m==[114,101,102])=false) (h10:(m==[115,101,114,105,97,108,110,117,109,98,101,114])=false) (h11:(m==[112,111,115,105,116,105,111,110])=false) (h12:(m==[97,108,105,97,115,101,100,111,98,106,101,99,116,110,97,109,101])=false) (h13:(m==[109,101,109,98,101,114])=true) (w:World):Calls prog 66 #[.string s] w (Ar s.data.toList w):=by have b:=fun w=>BF s d w;unfold Ce at b;rw [c] at b;have HR:=hZ9 (Cf c (show RuS.typeM m=([109,101,109,98,101,114],5) from by rw [af.1 h13];decide+kernel));clear c;go_enter func66,ntmps66;go_wp2_with fail;refine (b _).mono ?_;rintro e w1 ⟨rfl,a⟩;go_wp2_with fail;go_ret2;exact Ar.mk' HR.out a
theorem ZW (s:ByteArray) (d:s.size<=9223372036854775807) (m:List UInt8) (c:RuS.lower s.data.toList=m) (h0:(m==[111,98,106,101,99,116,99,108,97,115,115])=false) (h1:(m==[99,110])=false) (h2:(m==[111,117])=false) (h3:(m==[111])=false) (h4:(m==[100,99])=false) (h5:(m==[117,105,100])=false) (h6:(m==[100,101,115,99,114,105,112,116,105,111,110])=false) (h7:(m==[109,97,105,108])=false) (h8:(m==[117,115,101,114,112,97,115,115,119,111,114,100])=false) (h9:(m==[114,101,102])=false) (h10:(m==[115,101,114,105,97,108,110,117,109,98,101,114])=false) (h11:(m==[112,111,115,105,116,105,111,110])=false) (h12:(m==[97,108,105,97,115,101,100,111,98,106,101,99,116,110,97,109,101])=false) (h13:(m==[109,101,109,98,101,114])=false) (w:World):Calls prog 66 #[.string s] w (Ar s.data.toList w):=by have b:=fun w=>BF s d w;unfold Ce at b;rw [c] at b;have HR:=hZ9 (Cf c (show RuS.typeM m=([],0) from by unfold RuS.typeM RuS.tab;simp only [List.find?,h0,h1,h2,h3,h4,h5,h6,h7,h8,h9,h10,h11,h12,h13]));clear c;go_enter func66,ntmps66;go_wp2_with fail;refine (b _).mono ?_;rintro e w1 ⟨rfl,a⟩;go_wp2_with fail;go_ret2;exact Ar.mk' HR.out a
theorem MX (s:ByteArray) (a:s.size<=9223372036854775807) (w:World):Calls prog 66 #[.string s] w (Ar s.data.toList w):=by
 generalize b:RuS.lower s.data.toList=m;cases h0:(m==[111,98,106,101,99,116,99,108,97,115,115]) with
 | true=>exact Aca s a m b h0 w
 | false=>
  cases h1:(m==[99,110]) with
  | true=>exact Acb s a m b h0 h1 w
  | false=>
   cases h2:(m==[111,117]) with
   | true=>exact Acd s a m b h0 h1 h2 w
   | false=>
    cases h3:(m==[111]) with
    | true=>exact Ace s a m b h0 h1 h2 h3 w
    | false=>
     cases h4:(m==[100,99]) with
     | true=>exact Acf s a m b h0 h1 h2 h3 h4 w
     | false=>
      cases h5:(m==[117,105,100]) with
      | true=>exact Acg s a m b h0 h1 h2 h3 h4 h5 w
      | false=>
       cases h6:(m==[100,101,115,99,114,105,112,116,105,111,110]) with
       | true=>exact Ach s a m b h0 h1 h2 h3 h4 h5 h6 w
       | false=>
        cases h7:(m==[109,97,105,108]) with
        | true=>exact Aci s a m b h0 h1 h2 h3 h4 h5 h6 h7 w
        | false=>
         cases h8:(m==[117,115,101,114,112,97,115,115,119,111,114,100]) with
         | true=>exact Acj s a m b h0 h1 h2 h3 h4 h5 h6 h7 h8 w
         | false=>
          cases h9:(m==[114,101,102]) with
          | true=>exact Ack s a m b h0 h1 h2 h3 h4 h5 h6 h7 h8 h9 w
          | false=>
           cases h10:(m==[115,101,114,105,97,108,110,117,109,98,101,114]) with
           | true=>exact ZR s a m b h0 h1 h2 h3 h4 h5 h6 h7 h8 h9 h10 w
           | false=>
            cases h11:(m==[112,111,115,105,116,105,111,110]) with
            | true=>exact ZT s a m b h0 h1 h2 h3 h4 h5 h6 h7 h8 h9 h10 h11 w
            | false=>
             cases h12:(m==[97,108,105,97,115,101,100,111,98,106,101,99,116,110,97,109,101]) with
             | true=>exact ZU s a m b h0 h1 h2 h3 h4 h5 h6 h7 h8 h9 h10 h11 h12 w
             | false=>
              cases h13:(m==[109,101,109,98,101,114]) with
              | true=>exact ZV s a m b h0 h1 h2 h3 h4 h5 h6 h7 h8 h9 h10 h11 h12 h13 w
              | false=>exact ZW s a m b h0 h1 h2 h3 h4 h5 h6 h7 h8 h9 h10 h11 h12 h13 w
end
section
open Go.RowKit
def Bj (L:List (List UInt8)):Array Value:=(L.map Ac).toArray
def Dy (w:World) (g:Nat) (wr:World):Prop:=
 Below w.heap.size w wr/\(∀k,1<=k->k<6->Whole wr (g+(k - 1)) 9 (Bj (RuS.tabRow k)))/\
 Whole wr (g+5) 23 #[.slice none 0 0,.slice (some ⟨g,0,none⟩) 8 8,.slice (some ⟨g+1,0,none⟩) 2 2,.slice (some ⟨g+2,0,none⟩) 1 1,.slice (some ⟨g+3,0,none⟩) 1 1,.slice (some ⟨g+4,0,none⟩) 2 2]
theorem Dy.call {w:World} {g:Nat} {wr w':World} (h:Dy w g wr) (hb:Below wr.heap.size wr w'):Dy w g w':=
 ⟨h.1.trans (hb.mono h.1.size),fun k h1 h2=>(h.2.1 k h1 h2).call hb,h.2.2.call hb⟩
theorem Dy.made (w:World):Dy w w.heap.size ((((((w.alloc (Obj.cells (Bj (RuS.tabRow 1)) 9)).alloc (Obj.cells (Bj (RuS.tabRow 2)) 9)).alloc (Obj.cells (Bj (RuS.tabRow 3)) 9)).alloc
  (Obj.cells (Bj (RuS.tabRow 4)) 9)).alloc (Obj.cells (Bj (RuS.tabRow 5)) 9)).alloc
  (Obj.cells #[.slice none 0 0,.slice (some ⟨w.heap.size,0,none⟩) 8 8,.slice (some ⟨w.heap.size+1,0,none⟩) 2 2,.slice (some ⟨w.heap.size+1+1,0,none⟩) 1 1,.slice (some ⟨w.heap.size+1+1+1,0,none⟩) 1 1,.slice (some ⟨w.heap.size+1+1+1+1,0,none⟩) 2 2] 23)):=by
 have m1:=Whole.made w 9 (Bj (RuS.tabRow 1));have m2:=Whole.made (w.alloc (Obj.cells (Bj (RuS.tabRow 1)) 9)) 9 (Bj (RuS.tabRow 2));have m3:=Whole.made ((w.alloc (Obj.cells (Bj (RuS.tabRow 1)) 9)).alloc (Obj.cells (Bj (RuS.tabRow 2)) 9)) 9 (Bj (RuS.tabRow 3));have m4:=Whole.made (((w.alloc (Obj.cells (Bj (RuS.tabRow 1)) 9)).alloc (Obj.cells (Bj (RuS.tabRow 2)) 9)).alloc (Obj.cells (Bj (RuS.tabRow 3)) 9)) 9 (Bj (RuS.tabRow 4));have m5:=Whole.made ((((w.alloc (Obj.cells (Bj (RuS.tabRow 1)) 9)).alloc (Obj.cells (Bj (RuS.tabRow 2)) 9)).alloc (Obj.cells (Bj (RuS.tabRow 3)) 9)).alloc (Obj.cells (Bj (RuS.tabRow 4)) 9)) 9 (Bj (RuS.tabRow 5));have m6:=Whole.made (((((w.alloc (Obj.cells (Bj (RuS.tabRow 1)) 9)).alloc (Obj.cells (Bj (RuS.tabRow 2)) 9)).alloc (Obj.cells (Bj (RuS.tabRow 3)) 9)).alloc (Obj.cells (Bj (RuS.tabRow 4)) 9)).alloc (Obj.cells (Bj (RuS.tabRow 5)) 9)) 23
  #[.slice none 0 0,.slice (some ⟨w.heap.size,0,none⟩) 8 8,.slice (some ⟨w.heap.size+1,0,none⟩) 2 2,.slice (some ⟨w.heap.size+1+1,0,none⟩) 1 1,.slice (some ⟨w.heap.size+1+1+1,0,none⟩) 1 1,.slice (some ⟨w.heap.size+1+1+1+1,0,none⟩) 2 2]
 simp only [World.size_alloc] at m2 m3 m4 m5 m6;refine ⟨Ci (Ci (Ci (Ci (Ci (Ci (Below.refl _ _) _) _) _) _) _) _,fun k h1 h2=>?_,m6⟩;have hk:k=1\/k=2\/k=3\/k=4\/k=5:=by omega
 rcases hk with rfl | rfl | rfl | rfl | rfl
 · exact ((((m1.alloc _).alloc _).alloc _).alloc _).alloc _
 · exact (((m2.alloc _).alloc _).alloc _).alloc _
 · exact ((m3.alloc _).alloc _).alloc _
 · exact (m4.alloc _).alloc _
 · exact m5.alloc _
theorem Dy.nought {w:World} {g:Nat} {wr:World} (h:Dy w g wr):wr.cell? ⟨g+5,0,none⟩=some (.slice none 0 0):=h.2.2.cell 0
theorem Dy.hdr {w:World} {g:Nat} {wr:World} (h:Dy w g wr) {k:Nat} (h1:1<=k) (h2:k<6):
  wr.cell? ⟨g+5,k,none⟩=some (.slice (some ⟨g+(k - 1),0,none⟩) (RuS.tabRow k).length (RuS.tabRow k).length):=by
 have hk:k=1\/k=2\/k=3\/k=4\/k=5:=by omega
 rcases hk with rfl | rfl | rfl | rfl | rfl
 · exact h.2.2.cell 1
 · exact h.2.2.cell 2
 · exact h.2.2.cell 3
 · exact h.2.2.cell 4
 · exact h.2.2.cell 5
theorem Dy.at {w:World} {g:Nat} {wr:World} (h:Dy w g wr) {k j:Nat} (h1:1<=k) (h2:k<6) (a:j<(RuS.tabRow k).length):
  wr.cell? ⟨g+(k - 1),j,none⟩=some (.string ⟨((RuS.tabRow k)[j]).toArray⟩):=by
 rw [(h.2.1 k h1 h2).cell j];simp [Bj,Ac,a]
def NC (m:List UInt8) (k:Nat):Prop:=∀i,i<k->∀t ∈ RuS.tabRow i,¬RuS.lower t=m
def Hk (m:List UInt8) (k j:Nat):Prop:=∀t ∈ (RuS.tabRow k).take j,¬RuS.lower t=m
theorem NC.succ {m:List UInt8} {k:Nat} (h:NC m k) (h2:Hk m k (RuS.tabRow k).length):NC m (k+1):=by
 intro i c t a;by_cases b:i=k
 · subst b;rw [Hk,bE] at h2;exact h2 t a
 · exact h i (by omega) t a
theorem Hk.succ {m:List UInt8} {k j:Nat} (h:Hk m k j) (b:j<(RuS.tabRow k).length) (c:¬RuS.lower (RuS.tabRow k)[j]=m):Hk m k (j+1):=by
 intro t a;rw [aX b,b9] at a;rcases a with a | a
 · exact h t a
 · rw [ak] at a;subst a;exact c
theorem Hk.zero (m:List UInt8) (k:Nat):Hk m k 0:=by intro t a;simp at a
theorem Sv:∀k:Fin 6,(RuS.tabRow k.val).length<=8/\∀t ∈ RuS.tabRow k.val,t.length<=17:=by decide+kernel
def AfV (w:World) (g:Nat) (m:List UInt8) (v:Value) (wr:World):Prop:=∃k:Nat,k<=6/\v=.int .i64 k/\NC m k/\Dy w g wr
def AfW (w:World) (g:Nat) (m:List UInt8) (k:Nat) (v:Value) (wr:World):Prop:=∃j:Nat,j<=(RuS.tabRow k).length/\v=.int .i64 j/\Hk m k j/\Dy w g wr
theorem Gq (s:ByteArray) (N:s.size<=9223372036854775807) (w:World):Calls prog 51 #[.string s] w (Ar s.data.toList w):=by
 generalize F:RuS.lower s.data.toList=m;have J:=hZ9 F;have x:=fun w=>lower_c s N w;unfold Ce at x;rw [F] at x;clear F;go_enter func51,ntmps51;go_wp2_with fail;go_loopw [15] (fun v wr=>AfV w w.heap.size m v wr) (fun v _=>6 - (intOf v).toNat)
 case atStart=>exact ⟨0,by omega,rfl,fun i Q=>absurd Q (cu _),Dy.made w⟩
 case round=>
  obtain ⟨k,hk,rfl,B,o⟩:=hrel;by_cases b:k<6
  · by_cases h0:k=0
    · subst h0;have hc:=o.nought;go_wp2_with fail;refine wp_loop_rounds 1 ?_;rw [rounds_succ];go_wp2_with fail;go_roundw
      case rel=>exact ⟨1,by omega,rfl,B.succ (by intro t o;cases o),o⟩
      case measure=>simp [intOf]
    · have p:1<=k:=by omega
      have hc:=o.hdr p b;have A:=(Sv ⟨k,b⟩).1;simp only at A;generalize u:(RuS.tabRow k).length=n at*;have y:=hZ9 u;clear u;have M:decide ((k:Int)<6)=true:=aL (by omega);go_wp2_with fail;obtain ⟨H,rfl⟩:∃H:World,H=wr:=⟨_,rfl⟩
      go_loopw [22] (fun v wr=>AfW w w.heap.size m k v wr) (fun v _=>n - (intOf v).toNat)
      case atStart=>exact ⟨0,by omega,rfl,Hk.zero _ _,o⟩
      case round=>
       obtain ⟨j,L,rfl,q,d⟩:=hrel;by_cases C:j<n
       · have c:j<(RuS.tabRow k).length:=by rw [y.out];exact C
         have P:=d.at p b c;have f:=aZ c;have O:=(Sv ⟨k,b⟩).2 _ f;have r:=hZ9 (fun h=>q.succ c h);have G:=hZ9 (fun h=>RuS.typeM_hit (m:=m) b f h);clear f;generalize (RuS.tabRow k)[j]=t at*;have a:=fun w=>lower_c ⟨t.toArray⟩ (by show t.length<=_;omega) w;unfold Ce at a;clear hc c;cases I:(RuS.lower t==m) with
         | true=>have HR:=hZ9 (Cf J.out (G.out (af.1 I)));go_wp2_with fail;refine (a _).mono ?_;rintro e w1 ⟨rfl,g⟩;go_wp2_with fail;refine (x _).mono ?_;rintro e w2 ⟨rfl,l⟩;go_wp2_with fail;go_ret2;exact Ar.mk' HR.out ((d.call g).call l).1
         | false=>
          have K:=hZ9 (aV.1 I);go_wp2_with fail;refine (a _).mono ?_;rintro e w1 ⟨rfl,g⟩;go_wp2_with fail;refine (x _).mono ?_;rintro e w2 ⟨rfl,l⟩;go_wp2_with fail;go_roundw
          case rel=>exact ⟨j+1,by rw [y.out];omega,by go_num,r.out K.out,(d.call g).call l⟩
          case measure=>simp [intOf];omega
       · have E:j=n:=by rw [y.out] at L;omega
         subst E;go_wp2_with fail;go_roundw
         case rel=>exact ⟨k+1,by omega,by go_num,B.succ (by rw [y.out];exact q),d⟩
         case measure=>simp [intOf];omega
  · have z:k=6:=by omega
    subst z;have HR:=hZ9 (Cf J.out (RuS.typeM_none B));go_wp2_with fail;go_ret2;exact Ar.mk' HR.out o.1
end
end Go.Proofs.YtgngjfjaelgaeaaGreatDoor
