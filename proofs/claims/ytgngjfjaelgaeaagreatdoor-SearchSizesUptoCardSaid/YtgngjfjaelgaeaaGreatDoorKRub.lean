/- The walk of the document's 'Type'. Conditions: as stated. -/
import Derived.Test.YtgngjfjaelgaeaaGreatDoorKRua
set_option maxRecDepth 100000
namespace Go.Proofs.YtgngjfjaelgaeaaGreatDoor
section
open Go.RowKit
def Am (l:List UInt8) (w:World) (e:Ending) (w':World):Prop:=e=.returned (.tuple #[.string ⟨(RuS.typeOf l).1.toArray⟩,.int .i64 (RuS.typeOf l).2])/\Below w.heap.size w w'
theorem Am.mk' {l:List UInt8} {w w':World} {r:List UInt8 × Int} (h:RuS.typeOf l=r) (hb:Below w.heap.size w w'):Am l w (.returned (.tuple #[.string ⟨r.1.toArray⟩,.int .i64 r.2])) w':=by
 unfold Am;rw [h];exact ⟨rfl,hb⟩
theorem BP {l m:List UInt8} {r:List UInt8 × Int} (hm:RuS.lower l=m) (h:RuS.typeM m=r):RuS.typeOf l=r:=by unfold RuS.typeOf;rw [hm];exact h
theorem Abu (s:ByteArray) (hs:s.size<=9223372036854775807) (m:List UInt8) (hm:RuS.lower s.data.toList=m) (h0:(m==[111,98,106,101,99,116,99,108,97,115,115])=true) (w:World):Calls Tryz.prog 66 #[.string s] w (Am s.data.toList w):=by
 have hl:=fun w=>Bi s hs w
 unfold BO at hl
 rw [hm] at hl
 have HR:=hZ9 (BP hm (show RuS.typeM m=([111,98,106,101,99,116,67,108,97,115,115],1) from by rw [beq_iff_eq.1 h0];decide+kernel))
 clear hm
 go_enter Tryz.func66,Tryz.ntmps66
 go_wp2_with fail
 refine (hl _).mono ?_;rintro e w1 ⟨rfl,A0⟩
 go_wp2_with fail
 go_ret2
 exact Am.mk' HR.out A0
theorem Abv (s:ByteArray) (hs:s.size<=9223372036854775807) (m:List UInt8) (hm:RuS.lower s.data.toList=m) (h0:(m==[111,98,106,101,99,116,99,108,97,115,115])=false) (h1:(m==[99,110])=true) (w:World):Calls Tryz.prog 66 #[.string s] w (Am s.data.toList w):=by
 have hl:=fun w=>Bi s hs w
 unfold BO at hl
 rw [hm] at hl
 have HR:=hZ9 (BP hm (show RuS.typeM m=([99,110],1) from by rw [beq_iff_eq.1 h1];decide+kernel))
 have HM:=hZ9 (beq_iff_eq.1 h1)
 clear hm
 go_enter Tryz.func66,Tryz.ntmps66
 go_wp2_with fail
 refine (hl _).mono ?_;rintro e w1 ⟨rfl,A0⟩
 go_wp2_with fail
 refine (hl _).mono ?_;rintro e w2 ⟨rfl,A1⟩
 go_wp2_with fail
 go_ret2
 have:=Am.mk' HR.out (Aa A0 A1)
 rw [HM.out]
 exact this
theorem Abw (s:ByteArray) (hs:s.size<=9223372036854775807) (m:List UInt8) (hm:RuS.lower s.data.toList=m) (h0:(m==[111,98,106,101,99,116,99,108,97,115,115])=false) (h1:(m==[99,110])=false) (h2:(m==[111,117])=true) (w:World):Calls Tryz.prog 66 #[.string s] w (Am s.data.toList w):=by
 have hl:=fun w=>Bi s hs w
 unfold BO at hl
 rw [hm] at hl
 have HR:=hZ9 (BP hm (show RuS.typeM m=([111,117],1) from by rw [beq_iff_eq.1 h2];decide+kernel))
 have HM:=hZ9 (beq_iff_eq.1 h2)
 clear hm
 go_enter Tryz.func66,Tryz.ntmps66
 go_wp2_with fail
 refine (hl _).mono ?_;rintro e w1 ⟨rfl,A0⟩
 go_wp2_with fail
 refine (hl _).mono ?_;rintro e w2 ⟨rfl,A1⟩
 go_wp2_with fail
 go_ret2
 have:=Am.mk' HR.out (Aa A0 A1)
 rw [HM.out]
 exact this
theorem Abx (s:ByteArray) (hs:s.size<=9223372036854775807) (m:List UInt8) (hm:RuS.lower s.data.toList=m) (h0:(m==[111,98,106,101,99,116,99,108,97,115,115])=false) (h1:(m==[99,110])=false) (h2:(m==[111,117])=false) (h3:(m==[111])=true) (w:World):Calls Tryz.prog 66 #[.string s] w (Am s.data.toList w):=by
 have hl:=fun w=>Bi s hs w
 unfold BO at hl
 rw [hm] at hl
 have HR:=hZ9 (BP hm (show RuS.typeM m=([111],1) from by rw [beq_iff_eq.1 h3];decide+kernel))
 have HM:=hZ9 (beq_iff_eq.1 h3)
 clear hm
 go_enter Tryz.func66,Tryz.ntmps66
 go_wp2_with fail
 refine (hl _).mono ?_;rintro e w1 ⟨rfl,A0⟩
 go_wp2_with fail
 refine (hl _).mono ?_;rintro e w2 ⟨rfl,A1⟩
 go_wp2_with fail
 go_ret2
 have:=Am.mk' HR.out (Aa A0 A1)
 rw [HM.out]
 exact this
theorem Aby (s:ByteArray) (hs:s.size<=9223372036854775807) (m:List UInt8) (hm:RuS.lower s.data.toList=m) (h0:(m==[111,98,106,101,99,116,99,108,97,115,115])=false) (h1:(m==[99,110])=false) (h2:(m==[111,117])=false) (h3:(m==[111])=false) (h4:(m==[100,99])=true) (w:World):Calls Tryz.prog 66 #[.string s] w (Am s.data.toList w):=by
 have hl:=fun w=>Bi s hs w
 unfold BO at hl
 rw [hm] at hl
 have HR:=hZ9 (BP hm (show RuS.typeM m=([100,99],1) from by rw [beq_iff_eq.1 h4];decide+kernel))
 have HM:=hZ9 (beq_iff_eq.1 h4)
 clear hm
 go_enter Tryz.func66,Tryz.ntmps66
 go_wp2_with fail
 refine (hl _).mono ?_;rintro e w1 ⟨rfl,A1⟩
 go_wp2_with fail
 refine (hl _).mono ?_;rintro e w2 ⟨rfl,A0⟩
 go_wp2_with fail
 go_ret2
 have:=Am.mk' HR.out (Aa A1 A0)
 rw [HM.out]
 exact this
theorem Abz (s:ByteArray) (hs:s.size<=9223372036854775807) (m:List UInt8) (hm:RuS.lower s.data.toList=m) (h0:(m==[111,98,106,101,99,116,99,108,97,115,115])=false) (h1:(m==[99,110])=false) (h2:(m==[111,117])=false) (h3:(m==[111])=false) (h4:(m==[100,99])=false) (h5:(m==[117,105,100])=true) (w:World):Calls Tryz.prog 66 #[.string s] w (Am s.data.toList w):=by
 have hl:=fun w=>Bi s hs w
 unfold BO at hl
 rw [hm] at hl
 have HR:=hZ9 (BP hm (show RuS.typeM m=([117,105,100],1) from by rw [beq_iff_eq.1 h5];decide+kernel))
 have HM:=hZ9 (beq_iff_eq.1 h5)
 clear hm
 go_enter Tryz.func66,Tryz.ntmps66
 go_wp2_with fail
 refine (hl _).mono ?_;rintro e w1 ⟨rfl,A1⟩
 go_wp2_with fail
 refine (hl _).mono ?_;rintro e w2 ⟨rfl,A0⟩
 go_wp2_with fail
 go_ret2
 have:=Am.mk' HR.out (Aa A1 A0)
 rw [HM.out]
 exact this
theorem Ab0 (s:ByteArray) (hs:s.size<=9223372036854775807) (m:List UInt8) (hm:RuS.lower s.data.toList=m) (h0:(m==[111,98,106,101,99,116,99,108,97,115,115])=false) (h1:(m==[99,110])=false) (h2:(m==[111,117])=false) (h3:(m==[111])=false) (h4:(m==[100,99])=false) (h5:(m==[117,105,100])=false) (h6:(m==[100,101,115,99,114,105,112,116,105,111,110])=true) (w:World):Calls Tryz.prog 66 #[.string s] w (Am s.data.toList w):=by
 have hl:=fun w=>Bi s hs w
 unfold BO at hl
 rw [hm] at hl
 have HR:=hZ9 (BP hm (show RuS.typeM m=([100,101,115,99,114,105,112,116,105,111,110],1) from by rw [beq_iff_eq.1 h6];decide+kernel))
 have HM:=hZ9 (beq_iff_eq.1 h6)
 clear hm
 go_enter Tryz.func66,Tryz.ntmps66
 go_wp2_with fail
 refine (hl _).mono ?_;rintro e w1 ⟨rfl,A1⟩
 go_wp2_with fail
 refine (hl _).mono ?_;rintro e w2 ⟨rfl,A0⟩
 go_wp2_with fail
 go_ret2
 have:=Am.mk' HR.out (Aa A1 A0)
 rw [HM.out]
 exact this
theorem Ab1 (s:ByteArray) (hs:s.size<=9223372036854775807) (m:List UInt8) (hm:RuS.lower s.data.toList=m) (h0:(m==[111,98,106,101,99,116,99,108,97,115,115])=false) (h1:(m==[99,110])=false) (h2:(m==[111,117])=false) (h3:(m==[111])=false) (h4:(m==[100,99])=false) (h5:(m==[117,105,100])=false) (h6:(m==[100,101,115,99,114,105,112,116,105,111,110])=false) (h7:(m==[109,97,105,108])=true) (w:World):Calls Tryz.prog 66 #[.string s] w (Am s.data.toList w):=by
 have hl:=fun w=>Bi s hs w
 unfold BO at hl
 rw [hm] at hl
 have HR:=hZ9 (BP hm (show RuS.typeM m=([109,97,105,108],1) from by rw [beq_iff_eq.1 h7];decide+kernel))
 have HM:=hZ9 (beq_iff_eq.1 h7)
 clear hm
 go_enter Tryz.func66,Tryz.ntmps66
 go_wp2_with fail
 refine (hl _).mono ?_;rintro e w1 ⟨rfl,A1⟩
 go_wp2_with fail
 refine (hl _).mono ?_;rintro e w2 ⟨rfl,A0⟩
 go_wp2_with fail
 go_ret2
 have:=Am.mk' HR.out (Aa A1 A0)
 rw [HM.out]
 exact this
theorem Ab2 (s:ByteArray) (hs:s.size<=9223372036854775807) (m:List UInt8) (hm:RuS.lower s.data.toList=m) (h0:(m==[111,98,106,101,99,116,99,108,97,115,115])=false) (h1:(m==[99,110])=false) (h2:(m==[111,117])=false) (h3:(m==[111])=false) (h4:(m==[100,99])=false) (h5:(m==[117,105,100])=false) (h6:(m==[100,101,115,99,114,105,112,116,105,111,110])=false) (h7:(m==[109,97,105,108])=false) (h8:(m==[117,115,101,114,112,97,115,115,119,111,114,100])=true) (w:World):Calls Tryz.prog 66 #[.string s] w (Am s.data.toList w):=by
 have hl:=fun w=>Bi s hs w
 unfold BO at hl
 rw [hm] at hl
 have HR:=hZ9 (BP hm (show RuS.typeM m=([117,115,101,114,80,97,115,115,119,111,114,100],2) from by rw [beq_iff_eq.1 h8];decide+kernel))
 clear hm
 go_enter Tryz.func66,Tryz.ntmps66
 go_wp2_with fail
 refine (hl _).mono ?_;rintro e w1 ⟨rfl,A0⟩
 go_wp2_with fail
 go_ret2
 exact Am.mk' HR.out A0
theorem Ab3 (s:ByteArray) (hs:s.size<=9223372036854775807) (m:List UInt8) (hm:RuS.lower s.data.toList=m) (h0:(m==[111,98,106,101,99,116,99,108,97,115,115])=false) (h1:(m==[99,110])=false) (h2:(m==[111,117])=false) (h3:(m==[111])=false) (h4:(m==[100,99])=false) (h5:(m==[117,105,100])=false) (h6:(m==[100,101,115,99,114,105,112,116,105,111,110])=false) (h7:(m==[109,97,105,108])=false) (h8:(m==[117,115,101,114,112,97,115,115,119,111,114,100])=false) (h9:(m==[114,101,102])=true) (w:World):Calls Tryz.prog 66 #[.string s] w (Am s.data.toList w):=by
 have hl:=fun w=>Bi s hs w
 unfold BO at hl
 rw [hm] at hl
 have HR:=hZ9 (BP hm (show RuS.typeM m=([114,101,102],2) from by rw [beq_iff_eq.1 h9];decide+kernel))
 clear hm
 go_enter Tryz.func66,Tryz.ntmps66
 go_wp2_with fail
 refine (hl _).mono ?_;rintro e w1 ⟨rfl,A0⟩
 go_wp2_with fail
 go_ret2
 exact Am.mk' HR.out A0
theorem YU (s:ByteArray) (hs:s.size<=9223372036854775807) (m:List UInt8) (hm:RuS.lower s.data.toList=m) (h0:(m==[111,98,106,101,99,116,99,108,97,115,115])=false) (h1:(m==[99,110])=false) (h2:(m==[111,117])=false) (h3:(m==[111])=false) (h4:(m==[100,99])=false) (h5:(m==[117,105,100])=false) (h6:(m==[100,101,115,99,114,105,112,116,105,111,110])=false) (h7:(m==[109,97,105,108])=false) (h8:(m==[117,115,101,114,112,97,115,115,119,111,114,100])=false) (h9:(m==[114,101,102])=false) (h10:(m==[115,101,114,105,97,108,110,117,109,98,101,114])=true) (w:World):Calls Tryz.prog 66 #[.string s] w (Am s.data.toList w):=by
 have hl:=fun w=>Bi s hs w
 unfold BO at hl
 rw [hm] at hl
 have HR:=hZ9 (BP hm (show RuS.typeM m=([115,101,114,105,97,108,78,117,109,98,101,114],3) from by rw [beq_iff_eq.1 h10];decide+kernel))
 clear hm
 go_enter Tryz.func66,Tryz.ntmps66
 go_wp2_with fail
 refine (hl _).mono ?_;rintro e w1 ⟨rfl,A0⟩
 go_wp2_with fail
 go_ret2
 exact Am.mk' HR.out A0
theorem YV (s:ByteArray) (hs:s.size<=9223372036854775807) (m:List UInt8) (hm:RuS.lower s.data.toList=m) (h0:(m==[111,98,106,101,99,116,99,108,97,115,115])=false) (h1:(m==[99,110])=false) (h2:(m==[111,117])=false) (h3:(m==[111])=false) (h4:(m==[100,99])=false) (h5:(m==[117,105,100])=false) (h6:(m==[100,101,115,99,114,105,112,116,105,111,110])=false) (h7:(m==[109,97,105,108])=false) (h8:(m==[117,115,101,114,112,97,115,115,119,111,114,100])=false) (h9:(m==[114,101,102])=false) (h10:(m==[115,101,114,105,97,108,110,117,109,98,101,114])=false) (h11:(m==[112,111,115,105,116,105,111,110])=true) (w:World):Calls Tryz.prog 66 #[.string s] w (Am s.data.toList w):=by
 have hl:=fun w=>Bi s hs w
 unfold BO at hl
 rw [hm] at hl
 have HR:=hZ9 (BP hm (show RuS.typeM m=([112,111,115,105,116,105,111,110],4) from by rw [beq_iff_eq.1 h11];decide+kernel))
 clear hm
 go_enter Tryz.func66,Tryz.ntmps66
 go_wp2_with fail
 refine (hl _).mono ?_;rintro e w1 ⟨rfl,A0⟩
 go_wp2_with fail
 go_ret2
 exact Am.mk' HR.out A0
theorem YW (s:ByteArray) (hs:s.size<=9223372036854775807) (m:List UInt8) (hm:RuS.lower s.data.toList=m) (h0:(m==[111,98,106,101,99,116,99,108,97,115,115])=false) (h1:(m==[99,110])=false) (h2:(m==[111,117])=false) (h3:(m==[111])=false) (h4:(m==[100,99])=false) (h5:(m==[117,105,100])=false) (h6:(m==[100,101,115,99,114,105,112,116,105,111,110])=false) (h7:(m==[109,97,105,108])=false) (h8:(m==[117,115,101,114,112,97,115,115,119,111,114,100])=false) (h9:(m==[114,101,102])=false) (h10:(m==[115,101,114,105,97,108,110,117,109,98,101,114])=false) (h11:(m==[112,111,115,105,116,105,111,110])=false) (h12:(m==[97,108,105,97,115,101,100,111,98,106,101,99,116,110,97,109,101])=true) (w:World):Calls Tryz.prog 66 #[.string s] w (Am s.data.toList w):=by
 have hl:=fun w=>Bi s hs w
 unfold BO at hl
 rw [hm] at hl
 have HR:=hZ9 (BP hm (show RuS.typeM m=([97,108,105,97,115,101,100,79,98,106,101,99,116,78,97,109,101],5) from by rw [beq_iff_eq.1 h12];decide+kernel))
 clear hm
 go_enter Tryz.func66,Tryz.ntmps66
 go_wp2_with fail
 refine (hl _).mono ?_;rintro e w1 ⟨rfl,A0⟩
 go_wp2_with fail
 go_ret2
 exact Am.mk' HR.out A0
theorem YX (s:ByteArray) (hs:s.size<=9223372036854775807) (m:List UInt8) (hm:RuS.lower s.data.toList=m) (h0:(m==[111,98,106,101,99,116,99,108,97,115,115])=false) (h1:(m==[99,110])=false) (h2:(m==[111,117])=false) (h3:(m==[111])=false) (h4:(m==[100,99])=false) (h5:(m==[117,105,100])=false) (h6:(m==[100,101,115,99,114,105,112,116,105,111,110])=false) (h7:(m==[109,97,105,108])=false) (h8:(m==[117,115,101,114,112,97,115,115,119,111,114,100])=false) (h9:(m==[114,101,102])=false) (h10:(m==[115,101,114,105,97,108,110,117,109,98,101,114])=false) (h11:(m==[112,111,115,105,116,105,111,110])=false) (h12:(m==[97,108,105,97,115,101,100,111,98,106,101,99,116,110,97,109,101])=false) (h13:(m==[109,101,109,98,101,114])=true) (w:World):Calls Tryz.prog 66 #[.string s] w (Am s.data.toList w):=by
 have hl:=fun w=>Bi s hs w
 unfold BO at hl
 rw [hm] at hl
 have HR:=hZ9 (BP hm (show RuS.typeM m=([109,101,109,98,101,114],5) from by rw [beq_iff_eq.1 h13];decide+kernel))
 clear hm
 go_enter Tryz.func66,Tryz.ntmps66
 go_wp2_with fail
 refine (hl _).mono ?_;rintro e w1 ⟨rfl,A0⟩
 go_wp2_with fail
 go_ret2
 exact Am.mk' HR.out A0
theorem YY (s:ByteArray) (hs:s.size<=9223372036854775807) (m:List UInt8) (hm:RuS.lower s.data.toList=m) (h0:(m==[111,98,106,101,99,116,99,108,97,115,115])=false) (h1:(m==[99,110])=false) (h2:(m==[111,117])=false) (h3:(m==[111])=false) (h4:(m==[100,99])=false) (h5:(m==[117,105,100])=false) (h6:(m==[100,101,115,99,114,105,112,116,105,111,110])=false) (h7:(m==[109,97,105,108])=false) (h8:(m==[117,115,101,114,112,97,115,115,119,111,114,100])=false) (h9:(m==[114,101,102])=false) (h10:(m==[115,101,114,105,97,108,110,117,109,98,101,114])=false) (h11:(m==[112,111,115,105,116,105,111,110])=false) (h12:(m==[97,108,105,97,115,101,100,111,98,106,101,99,116,110,97,109,101])=false) (h13:(m==[109,101,109,98,101,114])=false) (w:World):Calls Tryz.prog 66 #[.string s] w (Am s.data.toList w):=by
 have hl:=fun w=>Bi s hs w
 unfold BO at hl
 rw [hm] at hl
 have HR:=hZ9 (BP hm (show RuS.typeM m=([],0) from by unfold RuS.typeM RuS.tab;simp only [List.find?,h0,h1,h2,h3,h4,h5,h6,h7,h8,h9,h10,h11,h12,h13]))
 clear hm
 go_enter Tryz.func66,Tryz.ntmps66
 go_wp2_with fail
 refine (hl _).mono ?_;rintro e w1 ⟨rfl,A0⟩
 go_wp2_with fail
 go_ret2
 exact Am.mk' HR.out A0
theorem MD (s:ByteArray) (hs:s.size<=9223372036854775807) (w:World):Calls Tryz.prog 66 #[.string s] w (Am s.data.toList w):=by
 generalize hm:RuS.lower s.data.toList=m
 cases h0:(m==[111,98,106,101,99,116,99,108,97,115,115]) with
 | true=>exact Abu s hs m hm h0 w
 | false=>
  cases h1:(m==[99,110]) with
  | true=>exact Abv s hs m hm h0 h1 w
  | false=>
   cases h2:(m==[111,117]) with
   | true=>exact Abw s hs m hm h0 h1 h2 w
   | false=>
    cases h3:(m==[111]) with
    | true=>exact Abx s hs m hm h0 h1 h2 h3 w
    | false=>
     cases h4:(m==[100,99]) with
     | true=>exact Aby s hs m hm h0 h1 h2 h3 h4 w
     | false=>
      cases h5:(m==[117,105,100]) with
      | true=>exact Abz s hs m hm h0 h1 h2 h3 h4 h5 w
      | false=>
       cases h6:(m==[100,101,115,99,114,105,112,116,105,111,110]) with
       | true=>exact Ab0 s hs m hm h0 h1 h2 h3 h4 h5 h6 w
       | false=>
        cases h7:(m==[109,97,105,108]) with
        | true=>exact Ab1 s hs m hm h0 h1 h2 h3 h4 h5 h6 h7 w
        | false=>
         cases h8:(m==[117,115,101,114,112,97,115,115,119,111,114,100]) with
         | true=>exact Ab2 s hs m hm h0 h1 h2 h3 h4 h5 h6 h7 h8 w
         | false=>
          cases h9:(m==[114,101,102]) with
          | true=>exact Ab3 s hs m hm h0 h1 h2 h3 h4 h5 h6 h7 h8 h9 w
          | false=>
           cases h10:(m==[115,101,114,105,97,108,110,117,109,98,101,114]) with
           | true=>exact YU s hs m hm h0 h1 h2 h3 h4 h5 h6 h7 h8 h9 h10 w
           | false=>
            cases h11:(m==[112,111,115,105,116,105,111,110]) with
            | true=>exact YV s hs m hm h0 h1 h2 h3 h4 h5 h6 h7 h8 h9 h10 h11 w
            | false=>
             cases h12:(m==[97,108,105,97,115,101,100,111,98,106,101,99,116,110,97,109,101]) with
             | true=>exact YW s hs m hm h0 h1 h2 h3 h4 h5 h6 h7 h8 h9 h10 h11 h12 w
             | false=>
              cases h13:(m==[109,101,109,98,101,114]) with
              | true=>exact YX s hs m hm h0 h1 h2 h3 h4 h5 h6 h7 h8 h9 h10 h11 h12 h13 w
              | false=>
               exact YY s hs m hm h0 h1 h2 h3 h4 h5 h6 h7 h8 h9 h10 h11 h12 h13 w
end
section
open Go.RowKit
def AZ (L:List (List UInt8)):Array Value:=(L.map Ac).toArray
def Dl (w:World) (g:Nat) (wr:World):Prop:=
 Below w.heap.size w wr/\(∀k,1<=k->k<6->Whole wr (g+(k - 1)) 9 (AZ (RuS.tabRow k)))/\
 Whole wr (g+5) 23 #[.slice none 0 0,.slice (some ⟨g,0,none⟩) 8 8,.slice (some ⟨g+1,0,none⟩) 2 2,.slice (some ⟨g+2,0,none⟩) 1 1,.slice (some ⟨g+3,0,none⟩) 1 1,.slice (some ⟨g+4,0,none⟩) 2 2]
theorem Dl.call {w:World} {g:Nat} {wr w':World} (h:Dl w g wr) (hb:Below wr.heap.size wr w'):Dl w g w':=
 ⟨h.1.trans (hb.mono h.1.size),fun k h1 h2=>(h.2.1 k h1 h2).call hb,h.2.2.call hb⟩
theorem Dl.made (w:World):Dl w w.heap.size ((((((w.alloc (Obj.cells (AZ (RuS.tabRow 1)) 9)).alloc (Obj.cells (AZ (RuS.tabRow 2)) 9)).alloc (Obj.cells (AZ (RuS.tabRow 3)) 9)).alloc
  (Obj.cells (AZ (RuS.tabRow 4)) 9)).alloc (Obj.cells (AZ (RuS.tabRow 5)) 9)).alloc
  (Obj.cells #[.slice none 0 0,.slice (some ⟨w.heap.size,0,none⟩) 8 8,.slice (some ⟨w.heap.size+1,0,none⟩) 2 2,.slice (some ⟨w.heap.size+1+1,0,none⟩) 1 1,.slice (some ⟨w.heap.size+1+1+1,0,none⟩) 1 1,.slice (some ⟨w.heap.size+1+1+1+1,0,none⟩) 2 2] 23)):=by
 have m1:=Whole.made w 9 (AZ (RuS.tabRow 1))
 have m2:=Whole.made (w.alloc (Obj.cells (AZ (RuS.tabRow 1)) 9)) 9 (AZ (RuS.tabRow 2))
 have m3:=Whole.made ((w.alloc (Obj.cells (AZ (RuS.tabRow 1)) 9)).alloc (Obj.cells (AZ (RuS.tabRow 2)) 9)) 9 (AZ (RuS.tabRow 3))
 have m4:=Whole.made (((w.alloc (Obj.cells (AZ (RuS.tabRow 1)) 9)).alloc (Obj.cells (AZ (RuS.tabRow 2)) 9)).alloc (Obj.cells (AZ (RuS.tabRow 3)) 9)) 9 (AZ (RuS.tabRow 4))
 have m5:=Whole.made ((((w.alloc (Obj.cells (AZ (RuS.tabRow 1)) 9)).alloc (Obj.cells (AZ (RuS.tabRow 2)) 9)).alloc (Obj.cells (AZ (RuS.tabRow 3)) 9)).alloc (Obj.cells (AZ (RuS.tabRow 4)) 9)) 9 (AZ (RuS.tabRow 5))
 have m6:=Whole.made (((((w.alloc (Obj.cells (AZ (RuS.tabRow 1)) 9)).alloc (Obj.cells (AZ (RuS.tabRow 2)) 9)).alloc (Obj.cells (AZ (RuS.tabRow 3)) 9)).alloc (Obj.cells (AZ (RuS.tabRow 4)) 9)).alloc (Obj.cells (AZ (RuS.tabRow 5)) 9)) 23
  #[.slice none 0 0,.slice (some ⟨w.heap.size,0,none⟩) 8 8,.slice (some ⟨w.heap.size+1,0,none⟩) 2 2,.slice (some ⟨w.heap.size+1+1,0,none⟩) 1 1,.slice (some ⟨w.heap.size+1+1+1,0,none⟩) 1 1,.slice (some ⟨w.heap.size+1+1+1+1,0,none⟩) 2 2]
 simp only [World.size_alloc] at m2 m3 m4 m5 m6
 refine ⟨BQ (BQ (BQ (BQ (BQ (BQ (Below.refl _ _) _) _) _) _) _) _,fun k h1 h2=>?_,m6⟩
 have hk:k=1\/k=2\/k=3\/k=4\/k=5:=by omega
 rcases hk with rfl | rfl | rfl | rfl | rfl
 · exact ((((m1.alloc _).alloc _).alloc _).alloc _).alloc _
 · exact (((m2.alloc _).alloc _).alloc _).alloc _
 · exact ((m3.alloc _).alloc _).alloc _
 · exact (m4.alloc _).alloc _
 · exact m5.alloc _
theorem Dl.nought {w:World} {g:Nat} {wr:World} (h:Dl w g wr):wr.cell? ⟨g+5,0,none⟩=some (.slice none 0 0):=h.2.2.cell 0
theorem Dl.hdr {w:World} {g:Nat} {wr:World} (h:Dl w g wr) {k:Nat} (h1:1<=k) (h2:k<6):
  wr.cell? ⟨g+5,k,none⟩=some (.slice (some ⟨g+(k - 1),0,none⟩) (RuS.tabRow k).length (RuS.tabRow k).length):=by
 have hk:k=1\/k=2\/k=3\/k=4\/k=5:=by omega
 rcases hk with rfl | rfl | rfl | rfl | rfl
 · exact h.2.2.cell 1
 · exact h.2.2.cell 2
 · exact h.2.2.cell 3
 · exact h.2.2.cell 4
 · exact h.2.2.cell 5
theorem Dl.at {w:World} {g:Nat} {wr:World} (h:Dl w g wr) {k j:Nat} (h1:1<=k) (h2:k<6) (hj:j<(RuS.tabRow k).length):
  wr.cell? ⟨g+(k - 1),j,none⟩=some (.string ⟨((RuS.tabRow k)[j]).toArray⟩):=by
 rw [(h.2.1 k h1 h2).cell j]
 simp [AZ,Ac,hj]
def MW (m:List UInt8) (k:Nat):Prop:=∀i,i<k->∀t ∈ RuS.tabRow i,¬RuS.lower t=m
def GF (m:List UInt8) (k j:Nat):Prop:=∀t ∈ (RuS.tabRow k).take j,¬RuS.lower t=m
theorem MW.succ {m:List UInt8} {k:Nat} (h:MW m k) (h2:GF m k (RuS.tabRow k).length):MW m (k+1):=by
 intro i hi t ht
 by_cases he:i=k
 · subst he;rw [GF,List.take_length] at h2;exact h2 t ht
 · exact h i (by omega) t ht
theorem GF.succ {m:List UInt8} {k j:Nat} (h:GF m k j) (hj:j<(RuS.tabRow k).length) (hn:¬RuS.lower (RuS.tabRow k)[j]=m):GF m k (j+1):=by
 intro t ht
 rw [List.take_succ_eq_append_getElem hj,List.mem_append] at ht
 rcases ht with ht | ht
 · exact h t ht
 · rw [List.mem_singleton] at ht;subst ht;exact hn
theorem GF.zero (m:List UInt8) (k:Nat):GF m k 0:=by intro t ht;simp at ht
theorem Ry:∀k:Fin 6,(RuS.tabRow k.val).length<=8/\∀t ∈ RuS.tabRow k.val,t.length<=17:=by decide+kernel
def AeY (w:World) (g:Nat) (m:List UInt8) (v:Value) (wr:World):Prop:=∃k:Nat,k<=6/\v=.int .i64 k/\MW m k/\Dl w g wr
def AeZ (w:World) (g:Nat) (m:List UInt8) (k:Nat) (v:Value) (wr:World):Prop:=∃j:Nat,j<=(RuS.tabRow k).length/\v=.int .i64 j/\GF m k j/\Dl w g wr
theorem FW (s:ByteArray) (hs:s.size<=9223372036854775807) (w:World):Calls Tryz.prog 51 #[.string s] w (Am s.data.toList w):=by
 generalize hm:RuS.lower s.data.toList=m
 have HM:=hZ9 hm
 have hl:=fun w=>lower_c s hs w
 unfold BO at hl
 rw [hm] at hl
 clear hm
 go_enter Tryz.func51,Tryz.ntmps51
 go_wp2_with fail
 go_loopw [15] (fun v wr=>AeY w w.heap.size m v wr) (fun v _=>6 - (intOf v).toNat)
 case atStart=>exact ⟨0,by omega,rfl,fun i hi=>absurd hi (Nat.not_lt_zero _),Dl.made w⟩
 case round=>
  obtain ⟨k,hk,rfl,hn,ht⟩:=hrel
  by_cases A1:k<6
  · by_cases h0:k=0
    · subst h0
      have hc:=ht.nought
      go_wp2_with fail
      refine wp_loop_rounds 1 ?_
      rw [rounds_succ]
      go_wp2_with fail
      go_roundw
      case rel=>exact ⟨1,by omega,rfl,hn.succ (by intro t ht;cases ht),ht⟩
      case measure=>simp [intOf]
    · have A9:1<=k:=by omega
      have hc:=ht.hdr A9 A1
      have B4:=(Ry ⟨k,A1⟩).1
      simp only at B4
      generalize B0:(RuS.tabRow k).length=n at*
      have HN:=hZ9 B0
      clear B0
      have B8:decide ((k:Int)<6)=true:=decide_eq_true (by omega)
      go_wp2_with fail
      obtain ⟨wo,rfl⟩:∃wo:World,wo=wr:=⟨_,rfl⟩
      go_loopw [22] (fun v wr=>AeZ w w.heap.size m k v wr) (fun v _=>n - (intOf v).toNat)
      case atStart=>exact ⟨0,by omega,rfl,GF.zero _ _,ht⟩
      case round=>
       obtain ⟨j,hj,rfl,A8,A3⟩:=hrel
       by_cases B5:j<n
       · have A2:j<(RuS.tabRow k).length:=by rw [HN.out];exact B5
         have B6:=A3.at A9 A1 A2
         have A7:=List.getElem_mem A2
         have B7:=(Ry ⟨k,A1⟩).2 _ A7
         have A4:=hZ9 (fun h=>A8.succ A2 h)
         have B2:=hZ9 (fun h=>RuS.typeM_hit (m:=m) A1 A7 h)
         clear A7
         generalize (RuS.tabRow k)[j]=t at*
         have A0:=fun w=>lower_c ⟨t.toArray⟩ (by show t.length<=_;omega) w
         unfold BO at A0
         clear hc A2
         cases hq:(RuS.lower t==m) with
         | true=>
          have HR:=hZ9 (BP HM.out (B2.out (beq_iff_eq.1 hq)))
          go_wp2_with fail
          refine (A0 _).mono ?_;rintro e w1 ⟨rfl,A6⟩
          go_wp2_with fail
          refine (hl _).mono ?_;rintro e w2 ⟨rfl,A5⟩
          go_wp2_with fail
          go_ret2
          exact Am.mk' HR.out ((A3.call A6).call A5).1
         | false=>
          have HQ:=hZ9 (beq_eq_false_iff_ne.1 hq)
          go_wp2_with fail
          refine (A0 _).mono ?_;rintro e w1 ⟨rfl,A6⟩
          go_wp2_with fail
          refine (hl _).mono ?_;rintro e w2 ⟨rfl,A5⟩
          go_wp2_with fail
          go_roundw
          case rel=>exact ⟨j+1,by rw [HN.out];omega,by go_num,A4.out HQ.out,(A3.call A6).call A5⟩
          case measure=>simp [intOf];omega
       · have B1:j=n:=by rw [HN.out] at hj;omega
         subst B1
         go_wp2_with fail
         go_roundw
         case rel=>exact ⟨k+1,by omega,by go_num,hn.succ (by rw [HN.out];exact A8),A3⟩
         case measure=>simp [intOf];omega
  · have B3:k=6:=by omega
    subst B3
    have HR:=hZ9 (BP HM.out (RuS.typeM_none hn))
    go_wp2_with fail
    go_ret2
    exact Am.mk' HR.out ht.1
end
end Go.Proofs.YtgngjfjaelgaeaaGreatDoor
