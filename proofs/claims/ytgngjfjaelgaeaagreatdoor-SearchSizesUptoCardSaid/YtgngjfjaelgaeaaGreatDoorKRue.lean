/- The walks of the program's 'normal' and 'Normal'. Conditions: as stated. -/
import Derived.Test.YtgngjfjaelgaeaaGreatDoorKRub
import Derived.Test.YtgngjfjaelgaeaaGreatDoorKPhi
set_option maxRecDepth 100000
namespace Go.Proofs.YtgngjfjaelgaeaaGreatDoor
section
open Go.RowKit
theorem Aet (v:Value) (xs:List (List UInt8)) (sep:ByteArray) (w:World) (h:Ai w v xs) (hn:xs.length<=140737488355328) (hlen:(Lib.join xs sep.data.toList).length<=140737488355328):
  Calls Tryz.prog 71 #[v,.string sep] w fun e w'=>e=.returned (.string ⟨(Lib.join xs sep.data.toList).toArray⟩)/\Below w.heap.size w w':=by
 obtain ⟨a,c,rfl,hc,h⟩:=h
 rcases h with rfl | ⟨g,o,rfl,hg,h⟩
 · refine (Tryz.strings_Join_none a c sep w).mono ?_
   rintro e w' ⟨rfl,rfl⟩
   exact ⟨rfl,Below.refl _ _⟩
 · have e1:(xs.map (fun x=>(⟨x.toArray⟩:ByteArray))).map (·.data.toList)=xs:=by
    rw [List.map_map]
    exact (List.map_congr_left (fun x _=>rfl)).trans (List.map_id xs)
   have e2:(xs.map (fun x=>(⟨x.toArray⟩:ByteArray))).length=xs.length:=List.length_map _
   have hj:=Tryz.strings_Join g o c (xs.map (fun x=>(⟨x.toArray⟩:ByteArray))) sep w (fun j x hx=>by
    rw [List.getElem?_map] at hx
    cases A0:xs[j]? with
    | none=>rw [A0] at hx;cases hx
    | some y=>
     rw [A0] at hx
     have hx:=Option.some.inj hx
     subst hx
     exact h j y A0) hg (by rw [e2];exact hn) (by rw [e2];exact hc) (by rw [e1];exact hlen)
   rw [e1,e2] at hj
   exact hj
theorem Wy {l:List UInt8} {v:Int} (h:Lib.parseIntB 64 l=.ok v):-9223372036854775808<=v/\v<=9223372036854775807:=by
 unfold Lib.parseIntB at h
 split at h
 · cases h
 · rename_i c r
   simp only at h
   split at h
   · cases h
   · cases h
   · rename_i u hu
     by_cases h1:¬c.toNat=45/\2 ^ (64 - 1)<=u
     · rw [if_pos h1] at h;cases h
     · rw [if_neg h1] at h
       by_cases h2:c.toNat=45/\2 ^ (64 - 1)<u
       · rw [if_pos h2] at h;cases h
       · rw [if_neg h2] at h
         injection h with h
         have e:(2:Nat) ^ (64 - 1)=9223372036854775808:=by decide
         rw [e] at h1 h2
         split at h <;> omega
theorem Lp (s:ByteArray) (hs:s.size<=281474976710656) (v:Int) (h:Lib.parseIntB 64 s.data.toList=.ok v) (w:World):
  Calls Tryz.prog 183 #[.string s,.int .i64 10,.int .i64 64] w fun e w'=>e=.returned (.tuple #[.int .i64 v,.nilIface])/\Below w.heap.size w w':=by
 refine (Tryz.strconv_ParseInt_10_at64_ok s (by omega) v h w).mono ?_
 rintro e w' ⟨he,hw⟩
 refine ⟨he,?_⟩
 rcases hw with rfl | ⟨t,rfl⟩
 · exact Below.refl _ _
 · exact Lib.bytesWorld_below _ _ _
theorem SH (s:ByteArray) (hs:s.size<=281474976710656) (h:∀v,Lib.parseIntB 64 s.data.toList≠.ok v) (w:World) (hE:Env w):
  Calls Tryz.prog 183 #[.string s,.int .i64 10,.int .i64 64] w fun e w'=>∃n N,e=.returned (.tuple #[.int .i64 n,.iface 255 (.pointer (some ⟨N,0,none⟩))])/\Below w.heap.size w w':=by
 obtain ⟨tp,p,A1⟩:=hE.syn
 obtain ⟨A2,p',A0⟩:=hE.rng
 cases hr:Lib.parseIntB 64 s.data.toList with
 | ok v=>exact absurd hr (h v)
 | range=>
  refine (Any.strconv_ParseInt_10_at64_range Tryz.laysC174 s hs hr (.iface A2 p') w A0 (Or.inr ⟨_,_,rfl⟩)).mono ?_
  rintro e w' ⟨N,he,_,_,hb⟩
  exact ⟨_,N,he,hb⟩
 | _=>
  refine (Any.strconv_ParseInt_10_at64_syntax Tryz.laysC174 s hs hr (.iface tp p) w A1 (Or.inr ⟨_,_,rfl⟩)).mono ?_
  rintro e w' ⟨N,he,_,_,hb⟩
  exact ⟨_,N,he,hb⟩
def EW (syn:Int) (l:List UInt8) (w:World) (e:Ending) (w':World):Prop:=
 ∃t:List UInt8,e=.returned (.tuple #[.string ⟨t.toArray⟩,.bool (RuS.normV syn l).isSome])/\(∀s,RuS.normV syn l=some s->t=s)/\Below w.heap.size w w'
theorem Ve (l:List UInt8):(RuS.wordsL l).length<=l.length+1:=by
 unfold RuS.wordsL
 have h1:=List.length_filter_le (fun p:List UInt8=>!p.isEmpty) (RuS.pieces 32 l)
 have h2:=Ih 32 l
 omega
theorem Ab4 (s:ByteArray) (hs:s.size<=1000000) (w:World) (hE:Env w):Calls Tryz.prog 159 #[.int .i64 1,.string s] w (EW 1 s.data.toList w):=by
 have A2:=fun w=>lower_c s (by omega) w
 unfold BO at A2
 have B8:=Lib.size_eq s
 have B7:=RuS.lower_length s.data.toList
 have A6:=fun w hE=>Aes ⟨(RuS.lower s.data.toList).toArray⟩ (by show (RuS.lower s.data.toList).length<=_;omega) w hE
 unfold Vd at A6
 have B3:(⟨(RuS.lower s.data.toList).toArray⟩:ByteArray).data.toList=RuS.lower s.data.toList:=rfl
 rw [B3] at A6
 have A8:=Ve (RuS.lower s.data.toList)
 have B4:=RuS.textS_le s.data.toList
 have A4:RuS.textS s.data.toList=Lib.join (RuS.wordsL (RuS.lower s.data.toList)) [32]:=rfl
 have HT:=hZ9 A4
 rw [A4] at B4
 have A5:=fun v w h=>Aet v (RuS.wordsL (RuS.lower s.data.toList)) ⟨#[32]⟩ w h (by omega) (by show (Lib.join (RuS.wordsL (RuS.lower s.data.toList)) [32]).length<=_;omega)
 have B5:(⟨#[32]⟩:ByteArray).data.toList=[32]:=rfl
 rw [B5] at A5
 rw [<-A4] at A5
 have HZ:=hZ9 (RuS.textS_zero s.data.toList)
 clear A4 B5 B3 A8 B4
 have HN:Hid (RuS.normV 1 s.data.toList=if (RuS.textS s.data.toList).isEmpty||RuS.hasNul s.data.toList then none else some (RuS.textS s.data.toList)):=hZ9 rfl
 generalize RuS.textS s.data.toList=tx at*
 generalize RuS.wordsL (RuS.lower s.data.toList)=ws at*
 generalize RuS.lower s.data.toList=lo at*
 clear B8 B7
 have A7:=fun w=>Tryz.strings_IndexByte ⟨tx.toArray⟩ 0 w
 have B1:(⟨tx.toArray⟩:ByteArray).data.toList=tx:=rfl
 have B0:((0:Int).toNat.toUInt8)=0:=rfl
 rw [B1,B0] at A7
 clear B1 B0
 have A9:=hZ9 (RuS.indexByte_none tx 0)
 generalize Lib.indexByte tx 0=ix at*
 go_enter Tryz.func159,Tryz.ntmps159
 go_wp2_with fail
 refine (A2 _).mono ?_;rintro e w1 ⟨rfl,B2⟩
 go_wp2_with fail
 refine (A6 _ (hE.below B2)).mono ?_;rintro e w2 ⟨v,rfl,C0,B6⟩
 go_wp2_with fail
 refine (A5 _ _ C0).mono ?_;rintro e w3 ⟨rfl,B9⟩
 have A0:=Aa B2 (Aa B6 B9)
 cases he:tx.isEmpty with
 | true=>
  have HE:=hZ9 he
  go_wp2_with fail
  go_ret2
  exact ⟨tx,by rw [HN.out,HE.out];rfl,fun s hs=>(by rw [HN.out,HE.out] at hs;cases hs),A0⟩
 | false=>
  have HE:=hZ9 he
  by_cases A3:ix<0
  · have HX:=hZ9 A3
    go_wp2_with fail
    refine (A7 _).mono ?_;rintro e w4 ⟨rfl,rfl⟩
    go_wp2_with fail
    go_ret2
    have A1:RuS.hasNul s.data.toList=false:=by
     unfold RuS.hasNul;rw [decide_eq_false_iff_not,<-HZ.out];exact A9.out.1 HX.out
    exact ⟨tx,by rw [HN.out,HE.out,A1];rfl,fun s hs=>by rw [HN.out,HE.out,A1] at hs;exact Option.some.inj hs,A0⟩
  · have HX:=hZ9 A3
    have C1:decide (ix<0)=false:=decide_eq_false A3
    clear A3
    go_wp2_with fail
    refine (A7 _).mono ?_;rintro e w4 ⟨rfl,rfl⟩
    go_wp2_with fail
    go_ret2
    have A1:RuS.hasNul s.data.toList=true:=by
     unfold RuS.hasNul
     rw [decide_eq_true_eq,<-HZ.out]
     exact Decidable.byContradiction fun hc=>by have h1:=A9.out.2 hc;have h2:=HX.out;omega
    exact ⟨tx,by rw [HN.out,HE.out,A1];rfl,fun s hs=>(by rw [HN.out,HE.out,A1] at hs;cases hs),A0⟩
theorem Ab5 (s:ByteArray) (w:World):Calls Tryz.prog 159 #[.int .i64 2,.string s] w (EW 2 s.data.toList w):=by
 go_enter Tryz.func159,Tryz.ntmps159
 go_wp2_with fail
 go_ret2
 exact ⟨s.data.toList,rfl,fun t ht=>Option.some.inj ht,Below.refl _ _⟩
theorem Ab6 (s:ByteArray) (hs:s.size<=1000000) (w:World) (hE:Env w):Calls Tryz.prog 159 #[.int .i64 4,.string s] w (EW 4 s.data.toList w):=by
 have hp:=fun w hE=>JO s (by omega) w hE
 unfold Pe at hp
 have HN:Hid (RuS.normV 4 s.data.toList=if (PhS.parseP s.data.toList).isSome then some s.data.toList else none):=hZ9 rfl
 cases hq:PhS.parseP s.data.toList with
 | none=>
  rw [hq] at hp
  simp only at hp
  have HQ:=hZ9 hq
  clear hq
  go_enter Tryz.func159,Tryz.ntmps159
  go_wp2_with fail
  refine (hp _ hE).mono ?_;rintro e w1 ⟨rfl,A0⟩
  go_wp2_with fail
  go_ret2
  exact ⟨s.data.toList,by rw [HN.out,HQ.out];rfl,fun t ht=>(by rw [HN.out,HQ.out] at ht;cases ht),A0⟩
 | some p=>
  obtain ⟨a,b⟩:=p
  rw [hq] at hp
  simp only at hp
  have HQ:=hZ9 hq
  clear hq
  go_enter Tryz.func159,Tryz.ntmps159
  go_wp2_with fail
  refine (hp _ hE).mono ?_;rintro e w1 ⟨rfl,A0⟩
  go_wp2_with fail
  go_ret2
  exact ⟨s.data.toList,by rw [HN.out,HQ.out];rfl,fun t ht=>by rw [HN.out,HQ.out] at ht;exact Option.some.inj ht,A0⟩
theorem Vf (s:ByteArray):(⟨s.data.toList.toArray⟩:ByteArray)=s:=by obtain ⟨⟨l⟩⟩:=s;rfl
theorem YZ (s:ByteArray) (hs:s.size<=1000000) (hp:∀v,Lib.parseIntB 64 s.data.toList≠.ok v) (w:World) (hE:Env w):Calls Tryz.prog 159 #[.int .i64 3,.string s] w (EW 3 s.data.toList w):=by
 have A1:=fun w hE=>SH s (by omega) hp w hE
 have HN:Hid (RuS.normV 3 s.data.toList=none):=hZ9 (by
  show (if (RuS.intS s.data.toList).isSome then some s.data.toList else none)=none
  have:RuS.intS s.data.toList=none:=by
   unfold RuS.intS
   split
   · rename_i n hn;exact absurd hn (hp n)
   · rfl
  rw [this];rfl)
 clear hp
 go_enter Tryz.func159,Tryz.ntmps159
 go_wp2_with fail
 refine (A1 _ hE).mono ?_;rintro e w1 ⟨n,N,rfl,A0⟩
 go_wp2_with fail
 go_ret2
 exact ⟨s.data.toList,by rw [HN.out];rfl,fun t ht=>(by rw [HN.out] at ht;cases ht),A0⟩
theorem Za (s:ByteArray) (hs:s.size<=1000000) (v:Int) (hp:Lib.parseIntB 64 s.data.toList=.ok v) (w:World) (hE:Env w):Calls Tryz.prog 159 #[.int .i64 3,.string s] w (EW 3 s.data.toList w):=by
 have A4:=fun w=>Lp s (by omega) v hp w
 have hr:=Wy hp
 have A5:=fun w hE=>JF v hr.1 hr.2 w hE
 have A3:=fun w=>Tryz.strings_TrimPrefix s ⟨#[45]⟩ w
 have A2:(⟨#[45]⟩:ByteArray).data.toList=[45]:=rfl
 rw [A2] at A3
 clear A2
 have HN:Hid (RuS.normV 3 s.data.toList=if (Lib.itoa v==s.data.toList)&&decide ((Lib.trimPrefix s.data.toList [45]).length<=18) then some s.data.toList else none):=hZ9 (by
  show (if (RuS.intS s.data.toList).isSome then some s.data.toList else none)=_
  unfold RuS.intS
  rw [hp]
  simp only
  split <;> rfl)
 clear hp hr
 generalize Lib.itoa v=iv at*
 have A7:s.data.toList=s.toList:=(Lib.toList_data s).symm
 have A6:=hZ9 A7
 clear A7
 cases h1:(iv==s.toList) with
 | false=>
  have H1:Hid ((iv==s.data.toList)=false):=hZ9 (by rw [A6.out];exact h1)
  go_enter Tryz.func159,Tryz.ntmps159
  go_wp2_with fail
  refine (A4 _).mono ?_;rintro e w1 ⟨rfl,A0⟩
  go_wp2_with fail
  refine (A5 _ (hE.below A0)).mono ?_;rintro e w2 ⟨rfl,A1⟩
  go_wp2_with fail
  go_ret2
  exact ⟨s.data.toList,by rw [HN.out,H1.out];rfl,fun t ht=>(by rw [HN.out,H1.out] at ht;cases ht),Aa A0 A1⟩
 | true=>
  have H1:Hid ((iv==s.data.toList)=true):=hZ9 (by rw [A6.out];exact h1)
  generalize Lib.trimPrefix s.data.toList [45]=tp at*
  by_cases h2:tp.length<=18
  · have H2:=hZ9 (decide_eq_true h2)
    have A8:decide ((tp.length:Int)<=18)=true:=decide_eq_true (by omega)
    go_enter Tryz.func159,Tryz.ntmps159
    go_wp2_with fail
    refine (A4 _).mono ?_;rintro e w1 ⟨rfl,A0⟩
    go_wp2_with fail
    refine (A5 _ (hE.below A0)).mono ?_;rintro e w2 ⟨rfl,A1⟩
    go_wp2_with fail
    refine (A3 _).mono ?_;rintro e w3 ⟨rfl,rfl⟩
    go_wp2_with fail
    go_ret2
    exact ⟨s.data.toList,by rw [HN.out,H1.out,H2.out];rfl,fun t ht=>(by rw [HN.out,H1.out,H2.out] at ht;exact Option.some.inj ht),Aa A0 A1⟩
  · have H2:=hZ9 (decide_eq_false h2)
    have A8:decide ((tp.length:Int)<=18)=false:=decide_eq_false (by omega)
    go_enter Tryz.func159,Tryz.ntmps159
    go_wp2_with fail
    refine (A4 _).mono ?_;rintro e w1 ⟨rfl,A0⟩
    go_wp2_with fail
    refine (A5 _ (hE.below A0)).mono ?_;rintro e w2 ⟨rfl,A1⟩
    go_wp2_with fail
    refine (A3 _).mono ?_;rintro e w3 ⟨rfl,rfl⟩
    go_wp2_with fail
    go_ret2
    exact ⟨s.data.toList,by rw [HN.out,H1.out,H2.out];rfl,fun t ht=>(by rw [HN.out,H1.out,H2.out] at ht;cases ht),Aa A0 A1⟩
theorem Vg (k:Nat) (h1:1<=k) (h4:k<=4) (s:ByteArray) (hs:s.size<=1000000) (w:World) (hE:Env w):Calls Tryz.prog 159 #[.int .i64 (k:Int),.string s] w (EW (k:Int) s.data.toList w):=by
 have hk:k=1\/k=2\/k=3\/k=4:=by omega
 rcases hk with rfl | rfl | rfl | rfl
 · exact Ab4 s hs w hE
 · exact Ab5 s w
 · by_cases h:∃v,Lib.parseIntB 64 s.data.toList=.ok v
   · obtain ⟨v,hv⟩:=h;exact Za s hs v hv w hE
   · exact YZ s hs (fun v hv=>h ⟨v,hv⟩) w hE
 · exact Ab6 s hs w hE
def Ba (name l:List UInt8) (w:World) (e:Ending) (w':World):Prop:=e=.returned (.tuple #[.string ⟨(RuS.normal name l).1.toArray⟩,.int .i64 (RuS.normal name l).2])/\Below w.heap.size w w'
theorem Ba.mk' {name l:List UInt8} {w w':World} {r:List UInt8 × Int} (h:RuS.normal name l=r) (hb:Below w.heap.size w w'):Ba name l w (.returned (.tuple #[.string ⟨r.1.toArray⟩,.int .i64 r.2])) w':=by
 unfold Ba;rw [h];exact ⟨rfl,hb⟩
theorem EX (nm s:ByteArray) (hn:nm.size<=9223372036854775807) (hs:s.size<=9223372036854775807) (w:World) (hE:Env w):
  Calls Tryz.prog 126 #[.string nm,.string s] w (Ba nm.data.toList s.data.toList w):=by
 have A2:=fun w=>FW nm hn w
 unfold Am at A2
 have A4:=RuS.typeM_all (RuS.lower nm.data.toList)
 have HN:Hid (RuS.normal nm.data.toList s.data.toList=RuS.normalR (RuS.typeOf nm.data.toList).2 s.data.toList):=hZ9 rfl
 have A1:RuS.typeOf nm.data.toList=([],0)\/(1<=(RuS.typeOf nm.data.toList).2/\(RuS.typeOf nm.data.toList).2<=5/\1<=(RuS.typeOf nm.data.toList).1.length/\(RuS.typeOf nm.data.toList).1.length<=17):=A4
 clear A4
 generalize RuS.typeOf nm.data.toList=r at*
 obtain ⟨t,sy⟩:=r
 simp only at A2 HN A1
 have A6:=Lib.size_eq s
 by_cases h0:sy=0
 · subst h0
   go_enter Tryz.func126,Tryz.ntmps126
   go_wp2_with fail
   refine (A2 _).mono ?_;rintro e w1 ⟨rfl,A0⟩
   go_wp2_with fail
   go_ret2
   exact Ba.mk' (r:=([],5)) (by rw [HN.out];rfl) A0
 by_cases h5:sy=5
 · subst h5
   go_enter Tryz.func126,Tryz.ntmps126
   go_wp2_with fail
   refine (A2 _).mono ?_;rintro e w1 ⟨rfl,A0⟩
   go_wp2_with fail
   go_ret2
   exact Ba.mk' (r:=([],1)) (by rw [HN.out];rfl) A0
 have A8:1<=sy/\sy<=4:=by
  rcases A1 with h | h
  · injection h with _ h;exact absurd h h0
  · omega
 have g0:(sy==0)=false:=by simpa using h0
 have g5:(sy==5)=false:=by simpa using h5
 have H0:=hZ9 h0
 have H5:=hZ9 h5
 clear h0 h5 A1
 by_cases he:s.data.toList.length<1
 · have B0:s.toList.isEmpty=true:=by rw [Lib.toList_data];exact List.isEmpty_iff.2 (List.eq_nil_of_length_eq_zero (by omega))
   have HE:=hZ9 he
   clear he
   go_enter Tryz.func126,Tryz.ntmps126
   go_wp2_with fail
   refine (A2 _).mono ?_;rintro e w1 ⟨rfl,A0⟩
   go_wp2_with fail
   go_ret2
   exact Ba.mk' (r:=([],2)) (by rw [HN.out];unfold RuS.normalR;rw [if_neg H0.out,if_neg H5.out,if_pos (.inl HE.out)]) A0
 have B0:s.toList.isEmpty=false:=by
  rw [Lib.toList_data]
  cases hq:s.data.toList with
  | nil=>rw [hq] at he;exact absurd (by decide) he
  | cons a b=>rfl
 by_cases hg:200<s.data.toList.length
 · have HE:=hZ9 hg
   have A9:200<s.size:=by omega
   clear he hg A6
   go_enter Tryz.func126,Tryz.ntmps126
   go_wp2_with fail
   refine (A2 _).mono ?_;rintro e w1 ⟨rfl,A0⟩
   go_wp2_with fail
   go_ret2
   exact Ba.mk' (r:=([],2)) (by rw [HN.out];unfold RuS.normalR;rw [if_neg H0.out,if_neg H5.out,if_pos (.inr HE.out)]) A0
 have A9:s.size<=200:=by omega
 have HG:Hid (¬(s.data.toList.length<1\/200<s.data.toList.length)):=hZ9 (by omega)
 clear he hg A6
 obtain ⟨k,rfl⟩:∃k:Nat,sy=(k:Int):=⟨sy.toNat,by omega⟩
 have A3:=fun w hE=>Vg k (by omega) (by omega) s (by omega) w hE
 unfold EW at A3
 have B2:decide ((200:Int)<(s.size:Int))=false:=decide_eq_false (by omega)
 cases hv:RuS.normV (k:Int) s.data.toList with
 | none=>
  rw [hv] at A3
  simp only [Option.isSome_none] at A3
  have HV:=hZ9 hv
  clear hv
  go_enter Tryz.func126,Tryz.ntmps126
  go_wp2_with fail
  refine (A2 _).mono ?_;rintro e w1 ⟨rfl,A0⟩
  go_wp2_with fail
  refine (A3 _ (hE.below A0)).mono ?_;rintro e w2 ⟨t2,rfl,_,A5⟩
  go_wp2_with fail
  go_ret2
  exact Ba.mk' (r:=([],2)) (by rw [HN.out];unfold RuS.normalR;rw [if_neg H0.out,if_neg H5.out,if_neg HG.out,HV.out]) (Aa A0 A5)
 | some x=>
  rw [hv] at A3
  simp only [Option.isSome_some] at A3
  have HV:=hZ9 hv
  clear hv
  go_enter Tryz.func126,Tryz.ntmps126
  go_wp2_with fail
  refine (A2 _).mono ?_;rintro e w1 ⟨rfl,A0⟩
  go_wp2_with fail
  refine (A3 _ (hE.below A0)).mono ?_;rintro e w2 ⟨t2,rfl,A7,A5⟩
  have B1:=A7 x rfl
  clear A7
  subst B1
  go_wp2_with fail
  go_ret2
  exact Ba.mk' (r:=(_,0)) (by rw [HN.out];unfold RuS.normalR;rw [if_neg H0.out,if_neg H5.out,if_neg HG.out,HV.out]) (Aa A0 A5)
end
section
open Go.RowKit
theorem Ai.laid (w:World) (xs:List (List UInt8)) (n:Nat) (hn:xs.length=n):Ai (w.alloc (.cells (xs.map Ac).toArray 9)) (.slice (some ⟨w.heap.size,0,none⟩) n n) xs:=by
 subst hn
 refine ⟨_,_,rfl,Nat.le_refl _,.inr ⟨w.heap.size,0,rfl,by simp,fun j y hj=>?_⟩⟩
 have h:=(Whole.made w 9 (xs.map Ac).toArray).cell j
 rw [Nat.zero_add,h]
 simp [hj]
end
end Go.Proofs.YtgngjfjaelgaeaaGreatDoor
