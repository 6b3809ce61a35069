/- The walks of package phasor and of its reference, first part: which numbers are formed, their parts, their texts. Conditions: as stated. -/
import Derived.Deep.DeepCutAuto
import Derived.Test.YtgngjfjaelgaeaaGreatDoorKPhg
set_option maxRecDepth 100000
set_option maxHeartbeats 1000000
namespace Go.Proofs.YtgngjfjaelgaeaaGreatDoor
section
open Go.RowKit
def Wd (x:Nat):Prop:=x<2 ^ 64
def neg (x:Nat):Bool:=decide (2 ^ 63<=x)
def Gf (x:Nat):Nat:=x % 2 ^ 63
theorem AcG (x:Nat) (w:World):∃y w',(callFunc 280 #[.float .f64 x]).run Tryz.prog w=.ok (.value (.float .f64 y)) w'/\Below w.heap.size w w'/\(FloatKind.f64.format.order x y==some .eq)=Fl.whole x:=by
 have h:=run_callFunc_extern (P:=Tryz.prog) (f:=280) Tryz.func280 (by kernel_rfl) rfl (by kernel_rfl) (e:=Extern.MathFloor.toIntegral "math.archTrunc" .zero) (by kernel_rfl) #[.float .f64 x] w
 rw [h]
 have key:Extern.MathFloor.toIntegral "math.archTrunc" .zero #[.float .f64 x]=(match Ieee.double.read x with
  | .nan s t=>
   if FloatKind.f64.format.quiet t=t then pure (.float .f64 x) else do
   let kept<-choose (.extern "math.Floor,Ceil,Trunc,RoundToEven.signallingNaN kept" 2)
   pure (.float .f64 (if kept==1 then x else FloatKind.f64.encode (.nan s (FloatKind.f64.format.quiet t))))
  | d=>pure (.float .f64 (FloatKind.f64.encode (d.integral .zero)))):=rfl
 rw [key]
 unfold Fl.whole
 cases hr:Ieee.double.read x with
 | nan s t=>
  have A0:∀y,(FloatKind.f64.format.order x y==some Ordering.eq)=false:=by
   intro y
   show (Ieee.double.order x y==some Ordering.eq)=false
   unfold Ieee.Format.order;rw [hr];rfl
  simp only
  split
  · exact ⟨x,w,rfl,Below.refl _ _,A0 x⟩
  · exact ⟨_,_,rfl,(Below.refl _ _).drew,A0 _⟩
 | infinity s=>exact ⟨_,w,rfl,Below.refl _ _,rfl⟩
 | number s m e=>exact ⟨_,w,rfl,Below.refl _ _,rfl⟩
theorem Uh (x:Nat) (w:World):(callFunc 283 #[.float .f64 x]).run Tryz.prog w=.ok (.value (.int .u64 x)) w:=by
 rw [run_callFunc_extern (P:=Tryz.prog) (f:=283) Tryz.func283 (by kernel_rfl) rfl (by kernel_rfl) (e:=Extern.MathFloatBits.float64bits) (by kernel_rfl) #[.float .f64 x] w]
 rfl
theorem AcH (x:Int) (w:World):(callFunc 282 #[.int .u64 x]).run Tryz.prog w=.ok (.value (.float .f64 x.toNat)) w:=by
 rw [run_callFunc_extern (P:=Tryz.prog) (f:=282) Tryz.func282 (by kernel_rfl) rfl (by kernel_rfl) (e:=Extern.MathFloatBits.float64frombits) (by kernel_rfl) #[.int .u64 x] w]
 rfl
theorem AcI {x:Nat} (hx:Wd x):decide (wrap64 (x:Int)<0)=neg x:=by
 unfold Wd at hx
 unfold neg wrap64
 rw [decide_eq_decide]
 omega
theorem AcJ {x:Nat} (hx:Wd x):(bits BinOp.andNot IntKind.u64 (x:Int) 9223372036854775808).toNat=Gf x:=by
 unfold Wd at hx
 unfold Gf
 rw [u64_andNot _ _ (by omega) (by omega) (by omega) (by omega)]
 have e:(18446744073709551615 - (9223372036854775808:Int).toNat)=2 ^ 63 - 1:=by decide
 rw [e,Int.toNat_natCast,Int.toNat_natCast,Nat.and_two_pow_sub_one_eq_mod]
theorem Rf (x:Nat) (hx:Wd x) (w:World):
  Calls Tryz.prog 279 #[.float .f64 x] w fun e w'=>e=.returned (.bool (neg x))/\w=w':=by
 have h:=Uh x w
 go_enter Tryz.func279,Tryz.ntmps279
 go_wp2
 go_ret
 exact ⟨congrArg (fun b=>Ending.returned (.bool b)) (AcI hx),rfl⟩
theorem SU (x:Nat) (hx:Wd x) (w:World):
  Calls Tryz.prog 278 #[.float .f64 x] w fun e w'=>e=.returned (.float .f64 (Gf x))/\w=w':=by
 have h:=Uh x w
 have h2:=fun y=>AcH y w
 go_enter Tryz.func278,Tryz.ntmps278
 go_wp2
 go_ret
 exact ⟨congrArg (fun b=>Ending.returned (.float .f64 b)) (AcJ hx),rfl⟩
theorem JM (x:Nat) (w:World):
  Calls Tryz.prog 277 #[.float .f64 x] w fun e w'=>∃y,e=.returned (.float .f64 y)/\Below w.heap.size w w'/\(FloatKind.f64.format.order x y==some .eq)=Fl.whole x:=by
 obtain ⟨y,w1,h,hb,ho⟩:=AcG x w
 go_enter Tryz.func277,Tryz.ntmps277
 go_wp2
 go_ret
 exact ⟨y,rfl,hb,ho⟩
def okB (x:Nat):Bool:=(Fl.numOf x).isSome
theorem WY {x:Nat} (hx:Wd x) (hw:Fl.whole x=true) (ho:FloatKind.f64.format.order (Gf x) 4696837146684686336=some .lt\/FloatKind.f64.format.order (Gf x) 4696837146684686336=some .eq)
  (hs:FloatKind.f64.format.order x 0≠some .eq\/neg x=false):okB x=true:=by
 have A0:Fl.dbl.order x 0≠some .eq\/x<2 ^ 63:=by
  rcases hs with h | h
  · exact .inl h
  · right;unfold neg at h;have:=of_decide_eq_false h;omega
 obtain ⟨n,hn⟩:=Fl.part_yes (b:=x) hx hw (by rw [Fl.D_million];exact ho) A0
 unfold okB;rw [hn];rfl
theorem Ui {x:Nat} (h:Fl.whole x=false\/(FloatKind.f64.format.order (Gf x) 4696837146684686336≠some .lt/\FloatKind.f64.format.order (Gf x) 4696837146684686336≠some .eq)\/(FloatKind.f64.format.order x 0=some .eq/\neg x=true)):okB x=false:=by
 cases ho:okB x with
 | false=>rfl
 | true=>
  exfalso
  unfold okB at ho
  obtain ⟨n,hn⟩:=Option.isSome_iff_exists.1 ho
  obtain ⟨h1,rfl⟩:=Fl.numOf_some hn
  obtain ⟨p1,p2,p3⟩:=Fl.part_num h1
  rw [Fl.D_million] at p2
  rcases h with h | h | h
  · rw [p1] at h;cases h
  · rcases p2 with p2 | p2
    · exact h.1 p2
    · exact h.2 p2
  · rcases p3 with p3 | p3
    · exact p3 h.1
    · have:=h.2;unfold neg at this;have:=of_decide_eq_true this;omega
theorem Qo {a b:Bool} (h:a=b):Ending.returned (.bool a)=Ending.returned (.bool b):=by rw [h]
theorem Uj (x:Nat) (hx:Wd x) (w:World):
  Calls Tryz.prog 267 #[.float .f64 x] w fun e w'=>e=.returned (.bool (okB x))/\Below w.heap.size w w':=by
 cases hw:Fl.whole x with
 | false=>
  have A4:=Ui (.inl hw)
  go_enter Tryz.func267,Tryz.ntmps267
  go_wp2_with (first
   | (go_at_call 277;refine (JM x _).mono ?_;rintro e w1 ⟨y,rfl,A1,hy⟩))
  go_ret
  exact ⟨Qo A4.symm,A1⟩
 | true=>
  by_cases ho:FloatKind.f64.format.order (Gf x) 4696837146684686336=some .lt\/FloatKind.f64.format.order (Gf x) 4696837146684686336=some .eq
  · have A5:(FloatKind.f64.format.order (Gf x) 4696837146684686336==some .lt||FloatKind.f64.format.order (Gf x) 4696837146684686336==some .eq)=true:=by
     rcases ho with h | h <;> rw [h] <;> rfl
    cases hz:(FloatKind.f64.format.order x 0 !=some .eq) with
    | true=>
     have A0:=WY hx hw ho (.inl (by simpa using hz))
     clear ho
     go_enter Tryz.func267,Tryz.ntmps267
     go_wp2_with (first
      | (go_at_call 277;refine (JM x _).mono ?_;rintro e w1 ⟨y,rfl,A1,hy⟩)
      | (go_at_call 278;refine (SU x hx _).mono ?_;rintro e w2 ⟨rfl,rfl⟩))
     go_ret
     exact ⟨Qo A0.symm,A1⟩
    | false=>
     have A3:FloatKind.f64.format.order x 0=some .eq:=by simpa using hz
     cases hn:neg x with
     | false=>
      have A0:=WY hx hw ho (.inr hn)
      clear ho A3
      go_enter Tryz.func267,Tryz.ntmps267
      go_wp2_with (first
       | (go_at_call 277;refine (JM x _).mono ?_;rintro e w1 ⟨y,rfl,A1,hy⟩)
       | (go_at_call 278;refine (SU x hx _).mono ?_;rintro e w2 ⟨rfl,rfl⟩)
       | (go_at_call 279;refine (Rf x hx _).mono ?_;rintro e w3 ⟨rfl,rfl⟩))
      go_ret
      exact ⟨Qo A0.symm,A1⟩
     | true=>
      have A0:=Ui (.inr (.inr ⟨A3,hn⟩))
      clear ho A3
      go_enter Tryz.func267,Tryz.ntmps267
      go_wp2_with (first
       | (go_at_call 277;refine (JM x _).mono ?_;rintro e w1 ⟨y,rfl,A1,hy⟩)
       | (go_at_call 278;refine (SU x hx _).mono ?_;rintro e w2 ⟨rfl,rfl⟩)
       | (go_at_call 279;refine (Rf x hx _).mono ?_;rintro e w3 ⟨rfl,rfl⟩))
      go_ret
      exact ⟨Qo A0.symm,A1⟩
  · have A2:FloatKind.f64.format.order (Gf x) 4696837146684686336≠some .lt/\FloatKind.f64.format.order (Gf x) 4696837146684686336≠some .eq:=⟨fun h=>ho (.inl h),fun h=>ho (.inr h)⟩
    have A5:(FloatKind.f64.format.order (Gf x) 4696837146684686336==some .lt||FloatKind.f64.format.order (Gf x) 4696837146684686336==some .eq)=false:=by
     simp [A2.1,A2.2]
    have A4:=Ui (.inr (.inl A2))
    clear ho A2
    go_enter Tryz.func267,Tryz.ntmps267
    go_wp2_with (first
     | (go_at_call 277;refine (JM x _).mono ?_;rintro e w1 ⟨y,rfl,A1,hy⟩)
     | (go_at_call 278;refine (SU x hx _).mono ?_;rintro e w2 ⟨rfl,rfl⟩))
    go_ret
    exact ⟨Qo A4.symm,A1⟩
end
section
open Go.RowKit
theorem Yh {a c:Int} (ha:a.natAbs<=1000000) (hc:c.natAbs<=1000000):FloatKind.f64.format.order (Fl.D a) (Fl.D c)=some (compare a c):=Fl.order_W (Fl.isW_D a) (Fl.isW_D c) (by omega) (by omega)
theorem OZ {a c:Int} (ha:a.natAbs<=1000000) (hc:c.natAbs<=1000000):(FloatKind.f64.format.order (Fl.D a) (Fl.D c)==some .eq)=decide (a=c):=by
 rw [Yh ha hc]
 by_cases h:a=c
 · subst h;rw [Fl.compare_self'];simp
 · have:compare a c≠.eq:=fun e=>h (Fl.compare_eq e)
   simp [h,this]
theorem Ad4 {a c:Int} (ha:a.natAbs<=1000000) (hc:c.natAbs<=1000000):(FloatKind.f64.format.order (Fl.D a) (Fl.D c)==some .gt)=decide (c<a):=by
 rw [Yh ha hc]
 rcases Int.lt_trichotomy a c with h | h | h
 · rw [Fl.cmp_lt h];simp;omega
 · subst h;rw [Fl.compare_self'];simp
 · rw [Fl.cmp_gt h];simp [h]
theorem DC {a:Int} (ha:a.natAbs<=1000000):okB (Fl.D a)=true:=by unfold okB;rw [Fl.numOf_D ha];rfl
theorem Dt {a:Int} (ha:a.natAbs<2 ^ 53):Wd (Fl.D a):=Fl.D_lt a ha
theorem Qp {a:Int} (ha:a.natAbs<=1000000):floatToIntVal .f64 (Fl.D a) .i64=some a:=by
 unfold floatToIntVal
 have h:(FloatKind.f64.decode (Fl.D a)).toInt .zero=some a:=Fl.toInt_val (Fl.read_D a (by omega)).val
 rw [h]
 have e1:IntKind.i64.min=-9223372036854775808:=rfl
 have e2:IntKind.i64.max=9223372036854775807:=rfl
 simp only
 rw [e1,e2,if_pos (by omega)]
theorem Dn (a b:Nat) (ha:Wd a) (hb:Wd b) (w:World):
  Calls Tryz.prog 239 #[.complex .f64 a b] w fun e w'=>e=.returned (.bool (okB a&&okB b))/\Below w.heap.size w w':=by
 cases h1:okB a with
 | false=>
  go_enter Tryz.func239,Tryz.ntmps239
  go_wp2_with (first
   | (go_at_call 267;refine (Uj a ha _).mono ?_;rintro e w1 ⟨rfl,A0⟩))
  go_ret
  exact ⟨rfl,A0⟩
 | true=>
  go_enter Tryz.func239,Tryz.ntmps239
  go_wp2_with fail
  refine (Uj a ha _).mono ?_
  rintro e w1 ⟨rfl,A0⟩
  go_wp2_with fail
  refine (Uj b hb _).mono ?_
  rintro e w2 ⟨rfl,A1⟩
  go_wp2_with fail
  go_ret
  exact ⟨rfl,Aa A0 A1⟩
theorem Dv (n:Int) (hn:n.natAbs<=1000000) (w:World) (hE:Env w):
  Calls Tryz.prog 240 #[.float .f64 (Fl.D n)] w fun e w'=>e=.returned (.string ⟨(Lib.itoa n).toArray⟩)/\Below w.heap.size w w':=by
 have A1:=fun w=>run_convert_float_int (P:=Tryz.prog) w 241 2 .f64 .i64 (Fl.D n) n (by kernel_rfl) Tryz.underlying2 (Qp hn)
 go_enter Tryz.func240,Tryz.ntmps240
 go_wp2_with (first
  | (go_at_call 184;refine (JF n (by omega) (by omega) _ hE).mono ?_;rintro e w1 ⟨rfl,A0⟩))
 go_ret
 exact ⟨rfl,A0⟩
theorem AcK (a b:Nat) (ha:Wd a) (hb:Wd b) (h:(okB a&&okB b)=false) (w:World):
  Calls Tryz.prog 209 #[.complex .f64 a b] w fun e w'=>e=.returned (.tuple #[.string ⟨#[]⟩,.int .i64 1])/\Below w.heap.size w w':=by
 go_enter Tryz.func209,Tryz.ntmps209
 go_wp2_with (first
  | (go_at_call 239;refine (Dn a b ha hb _).mono ?_;rintro e w1 ⟨rfl,A0⟩))
 go_ret2
 exact ⟨rfl,A0⟩
theorem Yi (a:Int) (ha:a.natAbs<=1000000) (w:World) (hE:Env w):
  Calls Tryz.prog 209 #[.complex .f64 (Fl.D a) (Fl.D 0)] w fun e w'=>e=.returned (.tuple #[.string ⟨(PhS.text a 0).toArray⟩,.int .i64 0])/\Below w.heap.size w w':=by
 have A2:=DC ha
 have A3:okB (Fl.D 0)=true:=DC (by decide)
 have h0:(FloatKind.f64.format.order (Fl.D 0) 0==some .eq)=true:=by
  have:=OZ (a:=0) (c:=0) (by decide) (by decide);rw [Fl.D_zero] at this⊢;exact this
 go_enter Tryz.func209,Tryz.ntmps209
 go_wp2_with (first
  | (go_at_call 239;refine (Dn _ _ (Dt (by omega)) (Dt (by decide)) _).mono ?_;rintro e w1 ⟨rfl,A0⟩)
  | (go_at_call 240;refine (Dv a ha _ (hE.below A0)).mono ?_;rintro e w2 ⟨rfl,A1⟩))
 go_ret2
 exact ⟨rfl,Aa A0 A1⟩
theorem BF (l r:List UInt8):(⟨l.toArray⟩++⟨r.toArray⟩:ByteArray)=⟨(l++r).toArray⟩:=by
 apply ByteArray.ext
 simp
theorem str_eq {l r:List UInt8} (h:l=r):(⟨l.toArray⟩:ByteArray)=⟨r.toArray⟩:=by rw [h]
theorem Nq (w:World) (hE:Env w):
  Calls Tryz.prog 240 #[.float .f64 (Fl.D 1)] w fun e w'=>e=.returned (.string ⟨#[49]⟩)/\Below w.heap.size w w':=by
 refine (Dv 1 (by decide) w hE).mono ?_
 rintro e w' ⟨rfl,hb⟩
 exact ⟨by rw [PhS.itoa_one],hb⟩
theorem Le (w:World) (hE:Env w):
  Calls Tryz.prog 240 #[.float .f64 (Fl.D (-1))] w fun e w'=>e=.returned (.string ⟨#[45,49]⟩)/\Below w.heap.size w w':=by
 refine (Dv (-1) (by decide) w hE).mono ?_
 rintro e w' ⟨rfl,hb⟩
 exact ⟨by rw [PhS.itoa_none],hb⟩
theorem Nr (w:World) (hE:Env w):
  Calls Tryz.prog 241 #[.string (⟨#[49]⟩++⟨#[105]⟩),.string ⟨#[49]⟩,.string ⟨#[]⟩,.int .i64 1] w fun e w'=>e=.returned (.string ⟨#[105]⟩)/\Below w.heap.size w w':=by
 obtain ⟨m,hm⟩:=hE.maxLen
 have e:(⟨#[49]⟩++⟨#[105]⟩:ByteArray)=⟨#[49,105]⟩:=by decide+kernel
 rw [e]
 refine (Tryz.strings_Replace _ _ _ 1 m w (by decide) hm (by decide) (by show 2+_*0<=_;omega)).mono ?_
 rintro e w' ⟨rfl,hb⟩
 exact ⟨congrArg (fun l:List UInt8=>Ending.returned (.string ⟨l.toArray⟩)) (by decide+kernel),hb⟩
theorem Lh (w:World) (hE:Env w):
  Calls Tryz.prog 241 #[.string (⟨#[45,49]⟩++⟨#[105]⟩),.string ⟨#[49]⟩,.string ⟨#[]⟩,.int .i64 1] w fun e w'=>e=.returned (.string ⟨#[45,105]⟩)/\Below w.heap.size w w':=by
 obtain ⟨m,hm⟩:=hE.maxLen
 have e:(⟨#[45,49]⟩++⟨#[105]⟩:ByteArray)=⟨#[45,49,105]⟩:=by decide+kernel
 rw [e]
 refine (Tryz.strings_Replace _ _ _ 1 m w (by decide) hm (by decide) (by show 3+_*0<=_;omega)).mono ?_
 rintro e w' ⟨rfl,hb⟩
 exact ⟨congrArg (fun l:List UInt8=>Ending.returned (.string ⟨l.toArray⟩)) (by decide+kernel),hb⟩
theorem fz {a:Int} (ha:a.natAbs<=1000000):(FloatKind.f64.format.order (Fl.D a) 0==some .eq)=decide (a=0):=by
 have:=OZ (a:=a) (c:=0) ha (by decide);rw [Fl.D_zero] at this;exact this
theorem Oa {a:Int} (ha:a.natAbs<=1000000):(FloatKind.f64.format.order (Fl.D a) 4607182418800017408==some .eq)=decide (a=1):=by
 have:=OZ (a:=a) (c:=1) ha (by decide);rw [Fl.D_one] at this;exact this
theorem LR {a:Int} (ha:a.natAbs<=1000000):(FloatKind.f64.format.order (Fl.D a) 13830554455654793216==some .eq)=decide (a=-1):=by
 have:=OZ (a:=a) (c:=-1) ha (by decide);rw [Fl.D_minus] at this;exact this
theorem Yj {a:Int} (ha:a.natAbs<=1000000):(FloatKind.f64.format.order (Fl.D a) 0==some .gt)=decide (0<a):=by
 have:=Ad4 (a:=a) (c:=0) ha (by decide);rw [Fl.D_zero] at this;exact this
def CO (a b:Int) (w:World) (e:Ending) (w':World):Prop:=e=.returned (.tuple #[.string ⟨(PhS.text a b).toArray⟩,.int .i64 0])/\Below w.heap.size w w'
theorem CO.mk {a b:Int} {w w':World} {s:ByteArray} (h:s=⟨(PhS.text a b).toArray⟩) (hb:Below w.heap.size w w'):CO a b w (.returned (.tuple #[.string s,.int .i64 0])) w':=⟨by rw [h],hb⟩
theorem Ob (w:World) (hE:Env w):
  Calls Tryz.prog 209 #[.complex .f64 (Fl.D 0) (Fl.D 1)] w (CO 0 1 w):=by
 have A4:=DC (a:=0) (by decide)
 have A3:=DC (a:=1) (by decide)
 have f1:(FloatKind.f64.format.order (Fl.D 1) 0==some .eq)=false:=fz (by decide)
 have f2:(FloatKind.f64.format.order (Fl.D 1) 4607182418800017408==some .eq)=true:=Oa (by decide)
 have f3:(FloatKind.f64.format.order (Fl.D 0) 0==some .eq)=true:=fz (by decide)
 go_enter Tryz.func209,Tryz.ntmps209
 go_wp2_with (first
  | (go_at_call 239;refine (Dn _ _ (Dt (by decide)) (Dt (by decide)) _).mono ?_;rintro e w1 ⟨rfl,A0⟩)
  | (go_at_call 240;refine (Nq _ (hE.below A0)).mono ?_;rintro e w2 ⟨rfl,A1⟩)
  | (go_at_call 241;refine (Nr _ ((hE.below A0).below A1)).mono ?_;rintro e w3 ⟨rfl,A2⟩))
 go_ret2
 exact CO.mk (str_eq (by decide+kernel)) (Aa (Aa A0 A1) A2)
theorem LS (w:World) (hE:Env w):
  Calls Tryz.prog 209 #[.complex .f64 (Fl.D 0) (Fl.D (-1))] w (CO 0 (-1) w):=by
 have A4:=DC (a:=0) (by decide)
 have A3:=DC (a:=-1) (by decide)
 have f1:(FloatKind.f64.format.order (Fl.D (-1)) 0==some .eq)=false:=fz (by decide)
 have f2:(FloatKind.f64.format.order (Fl.D (-1)) 4607182418800017408==some .eq)=false:=Oa (by decide)
 have f4:(FloatKind.f64.format.order (Fl.D (-1)) 13830554455654793216==some .eq)=true:=LR (by decide)
 have f3:(FloatKind.f64.format.order (Fl.D 0) 0==some .eq)=true:=fz (by decide)
 go_enter Tryz.func209,Tryz.ntmps209
 go_wp2_with (first
  | (go_at_call 239;refine (Dn _ _ (Dt (by decide)) (Dt (by decide)) _).mono ?_;rintro e w1 ⟨rfl,A0⟩)
  | (go_at_call 240;refine (Le _ (hE.below A0)).mono ?_;rintro e w2 ⟨rfl,A1⟩)
  | (go_at_call 241;refine (Lh _ ((hE.below A0).below A1)).mono ?_;rintro e w3 ⟨rfl,A2⟩))
 go_ret2
 exact CO.mk (str_eq (by decide+kernel)) (Aa (Aa A0 A1) A2)
theorem Aaz (a:Int) (ha:a.natAbs<=1000000) (h0:a≠0) (w:World) (hE:Env w):
  Calls Tryz.prog 209 #[.complex .f64 (Fl.D a) (Fl.D 1)] w (CO a 1 w):=by
 have hl:=PhS.itoa_len (n:=a) (by omega)
 have A6:=DC ha
 have A5:=DC (a:=1) (by decide)
 have f1:(FloatKind.f64.format.order (Fl.D 1) 0==some .eq)=false:=fz (by decide)
 have f2:(FloatKind.f64.format.order (Fl.D 1) 4607182418800017408==some .eq)=true:=Oa (by decide)
 have f3:(FloatKind.f64.format.order (Fl.D a) 0==some .eq)=false:=by rw [fz ha];simpa using h0
 have f5:(FloatKind.f64.format.order (Fl.D 1) 0==some .gt)=true:=Yj (by decide)
 have A0:PhS.text a 1=Lib.itoa a++([43]++[105]):=by unfold PhS.text PhS.sec;rw [if_neg (by decide),if_neg h0];rfl
 have HF:=hZ9 A0
 clear A0
 go_enter Tryz.func209,Tryz.ntmps209
 go_wp2_with fail
 refine (Dn _ _ (Dt (by omega)) (Dt (by decide)) _).mono ?_;rintro e w1 ⟨rfl,A1⟩
 go_wp2_with fail
 refine (Nq _ (hE.below A1)).mono ?_;rintro e w2 ⟨rfl,A2⟩
 go_wp2_with fail
 refine (Nr _ ((hE.below A1).below A2)).mono ?_;rintro e w3 ⟨rfl,A3⟩
 go_wp2_with fail
 refine (Dv a ha _ (((hE.below A1).below A2).below A3)).mono ?_;rintro e w4 ⟨rfl,A4⟩
 go_wp2_with fail
 go_ret2
 refine CO.mk ?_ (Aa (Aa (Aa A1 A2) A3) A4)
 rw [HF.out,<-BF,<-BF]
theorem VZ (a:Int) (ha:a.natAbs<=1000000) (h0:a≠0) (w:World) (hE:Env w):
  Calls Tryz.prog 209 #[.complex .f64 (Fl.D a) (Fl.D (-1))] w (CO a (-1) w):=by
 have hl:=PhS.itoa_len (n:=a) (by omega)
 have A6:=DC ha
 have A5:=DC (a:=-1) (by decide)
 have f1:(FloatKind.f64.format.order (Fl.D (-1)) 0==some .eq)=false:=fz (by decide)
 have f2:(FloatKind.f64.format.order (Fl.D (-1)) 4607182418800017408==some .eq)=false:=Oa (by decide)
 have f4:(FloatKind.f64.format.order (Fl.D (-1)) 13830554455654793216==some .eq)=true:=LR (by decide)
 have f3:(FloatKind.f64.format.order (Fl.D a) 0==some .eq)=false:=by rw [fz ha];simpa using h0
 have f5:(FloatKind.f64.format.order (Fl.D (-1)) 0==some .gt)=false:=Yj (by decide)
 have A0:PhS.text a (-1)=Lib.itoa a++[45,105]:=by unfold PhS.text PhS.sec;rw [if_neg (by decide),if_neg h0];rfl
 have HF:=hZ9 A0
 clear A0
 go_enter Tryz.func209,Tryz.ntmps209
 go_wp2_with fail
 refine (Dn _ _ (Dt (by omega)) (Dt (by decide)) _).mono ?_;rintro e w1 ⟨rfl,A1⟩
 go_wp2_with fail
 refine (Le _ (hE.below A1)).mono ?_;rintro e w2 ⟨rfl,A2⟩
 go_wp2_with fail
 refine (Lh _ ((hE.below A1).below A2)).mono ?_;rintro e w3 ⟨rfl,A3⟩
 go_wp2_with fail
 refine (Dv a ha _ (((hE.below A1).below A2).below A3)).mono ?_;rintro e w4 ⟨rfl,A4⟩
 go_wp2_with fail
 go_ret2
 refine CO.mk ?_ (Aa (Aa (Aa A1 A2) A3) A4)
 rw [HF.out,<-BF]
theorem Uk (b:Int) (hb:b.natAbs<=1000000) (h0:b≠0) (h1:b≠1) (h2:b≠-1) (w:World) (hE:Env w):
  Calls Tryz.prog 209 #[.complex .f64 (Fl.D 0) (Fl.D b)] w (CO 0 b w):=by
 have hl:=PhS.itoa_len (n:=b) (by omega)
 have A4:=DC (a:=0) (by decide)
 have A3:=DC hb
 have f1:(FloatKind.f64.format.order (Fl.D b) 0==some .eq)=false:=by rw [fz hb];simpa using h0
 have f2:(FloatKind.f64.format.order (Fl.D b) 4607182418800017408==some .eq)=false:=by rw [Oa hb];simpa using h1
 have f4:(FloatKind.f64.format.order (Fl.D b) 13830554455654793216==some .eq)=false:=by rw [LR hb];simpa using h2
 have f3:(FloatKind.f64.format.order (Fl.D 0) 0==some .eq)=true:=fz (by decide)
 have A0:PhS.text 0 b=Lib.itoa b++[105]:=by unfold PhS.text PhS.sec;rw [if_neg h0,if_pos rfl,if_neg h1,if_neg h2]
 have HF:=hZ9 A0
 clear A0 h0 h1 h2
 go_enter Tryz.func209,Tryz.ntmps209
 go_wp2_with fail
 refine (Dn _ _ (Dt (by decide)) (Dt (by omega)) _).mono ?_;rintro e w1 ⟨rfl,A1⟩
 go_wp2_with fail
 refine (Dv b hb _ (hE.below A1)).mono ?_;rintro e w2 ⟨rfl,A2⟩
 go_wp2_with fail
 go_ret2
 refine CO.mk ?_ (Aa A1 A2)
 rw [HF.out,<-BF]
theorem Aa0 (a b:Int) (ha:a.natAbs<=1000000) (hb:b.natAbs<=1000000) (A1:a≠0) (h0:0<b) (h1:b≠1) (w:World) (hE:Env w):
  Calls Tryz.prog 209 #[.complex .f64 (Fl.D a) (Fl.D b)] w (CO a b w):=by
 have hl:=PhS.itoa_len (n:=b) (by omega)
 have A5:=PhS.itoa_len (n:=a) (by omega)
 have A7:=DC ha
 have A6:=DC hb
 have f1:(FloatKind.f64.format.order (Fl.D b) 0==some .eq)=false:=by rw [fz hb];simp;omega
 have f2:(FloatKind.f64.format.order (Fl.D b) 4607182418800017408==some .eq)=false:=by rw [Oa hb];simpa using h1
 have f4:(FloatKind.f64.format.order (Fl.D b) 13830554455654793216==some .eq)=false:=by rw [LR hb];simp;omega
 have f3:(FloatKind.f64.format.order (Fl.D a) 0==some .eq)=false:=by rw [fz ha];simpa using A1
 have f5:(FloatKind.f64.format.order (Fl.D b) 0==some .gt)=true:=by rw [Yj hb];simpa using h0
 have A0:PhS.text a b=Lib.itoa a++([43]++(Lib.itoa b++[105])):=by unfold PhS.text PhS.sec;rw [if_neg (by omega),if_neg A1,if_pos h0,if_neg h1,if_neg (by omega)];rfl
 have HF:=hZ9 A0
 clear A0 A1 h1
 go_enter Tryz.func209,Tryz.ntmps209
 go_wp2_with fail
 refine (Dn _ _ (Dt (by omega)) (Dt (by omega)) _).mono ?_;rintro e w1 ⟨rfl,A2⟩
 go_wp2_with fail
 refine (Dv b hb _ (hE.below A2)).mono ?_;rintro e w2 ⟨rfl,A3⟩
 go_wp2_with fail
 refine (Dv a ha _ ((hE.below A2).below A3)).mono ?_;rintro e w3 ⟨rfl,A4⟩
 go_wp2_with fail
 go_ret2
 refine CO.mk ?_ (Aa (Aa A2 A3) A4)
 rw [HF.out,<-BF,<-BF,<-BF]
theorem Aa1 (a b:Int) (ha:a.natAbs<=1000000) (hb:b.natAbs<=1000000) (A1:a≠0) (h0:b<0) (h1:b≠-1) (w:World) (hE:Env w):
  Calls Tryz.prog 209 #[.complex .f64 (Fl.D a) (Fl.D b)] w (CO a b w):=by
 have hl:=PhS.itoa_len (n:=b) (by omega)
 have A5:=PhS.itoa_len (n:=a) (by omega)
 have A7:=DC ha
 have A6:=DC hb
 have f1:(FloatKind.f64.format.order (Fl.D b) 0==some .eq)=false:=by rw [fz hb];simp;omega
 have f2:(FloatKind.f64.format.order (Fl.D b) 4607182418800017408==some .eq)=false:=by rw [Oa hb];simp;omega
 have f4:(FloatKind.f64.format.order (Fl.D b) 13830554455654793216==some .eq)=false:=by rw [LR hb];simpa using h1
 have f3:(FloatKind.f64.format.order (Fl.D a) 0==some .eq)=false:=by rw [fz ha];simpa using A1
 have f5:(FloatKind.f64.format.order (Fl.D b) 0==some .gt)=false:=by rw [Yj hb];simp;omega
 have A0:PhS.text a b=Lib.itoa a++(Lib.itoa b++[105]):=by unfold PhS.text PhS.sec;rw [if_neg (by omega),if_neg A1,if_neg (by omega),if_neg (by omega),if_neg h1]
 have HF:=hZ9 A0
 clear A0 A1 h1
 go_enter Tryz.func209,Tryz.ntmps209
 go_wp2_with fail
 refine (Dn _ _ (Dt (by omega)) (Dt (by omega)) _).mono ?_;rintro e w1 ⟨rfl,A2⟩
 go_wp2_with fail
 refine (Dv b hb _ (hE.below A2)).mono ?_;rintro e w2 ⟨rfl,A3⟩
 go_wp2_with fail
 refine (Dv a ha _ ((hE.below A2).below A3)).mono ?_;rintro e w3 ⟨rfl,A4⟩
 go_wp2_with fail
 go_ret2
 refine CO.mk ?_ (Aa (Aa A2 A3) A4)
 rw [HF.out,<-BF,<-BF]
theorem Aa2 (a b:Int) (h:PhS.inR a b=true) (w:World) (hE:Env w):
  Calls Tryz.prog 209 #[.complex .f64 (Fl.D a) (Fl.D b)] w (CO a b w):=by
 have hr:a.natAbs<=1000000/\b.natAbs<=1000000:=of_decide_eq_true h
 obtain ⟨ha,hb⟩:=hr
 by_cases b0:b=0
 · subst b0;exact Yi a ha w hE
 by_cases b1:b=1
 · subst b1
   by_cases a0:a=0
   · subst a0;exact Ob w hE
   · exact Aaz a ha a0 w hE
 by_cases b2:b=-1
 · subst b2
   by_cases a0:a=0
   · subst a0;exact LS w hE
   · exact VZ a ha a0 w hE
 by_cases a0:a=0
 · subst a0;exact Uk b hb b0 b1 b2 w hE
 by_cases hp:0<b
 · exact Aa0 a b ha hb a0 hp b1 w hE
 · exact Aa1 a b ha hb a0 (by omega) b2 w hE
end
section
open Go.RowKit
theorem Oc (l:List UInt8):(PhS.readS l).1.natAbs<=2147483648:=by
 unfold PhS.readS
 split
 · rename_i v hv
   have:=Lib.parseIntB_bounds hv
   simp only
   have e:((2 ^ (32 - 1):Nat):Int)=2147483648:=by decide
   rw [e] at this
   omega
 · unfold Lib.intSat
   simp only
   split <;> decide
 · decide
theorem WZ {n:Int} (h:n.natAbs<2 ^ 53) (h1:1000000<n.natAbs):okB (Fl.D n)=false:=by
 unfold okB Fl.numOf
 rw [Fl.toInt_val (Fl.read_D n h).val]
 simp only
 rw [if_neg (by omega)]
 rfl
def Xa (l:List UInt8) (w:World) (e:Ending) (w':World):Prop:=e=.returned (.tuple #[.float .f64 (Fl.D (PhS.readS l).1),.bool (PhS.readS l).2])/\Below w.heap.size w w'
theorem Aa3 (s:ByteArray) (hs:s.size<=281474976710656) (w:World) (hE:Env w):
  Calls Tryz.prog 208 #[.string s] w (Xa s.data.toList w):=by
 have A1:=Oc s.data.toList
 have eD:floatOfInt .f64 (PhS.readS s.data.toList).1=Fl.D (PhS.readS s.data.toList).1:=Fl.D_eq _ (by omega)
 have HD:=hZ9 eD
 clear eD
 cases hr:(PhS.readS s.data.toList).2 with
 | true=>
  have A0:=Si s hs hr
  have HR:=hZ9 hr
  clear hr
  generalize hn:(PhS.readS s.data.toList).1=n at*
  have HN:=hZ9 hn
  clear hn
  go_enter Tryz.func208,Tryz.ntmps208
  go_wp2_with fail
  refine (A0 _).mono ?_
  rintro e w1 ⟨rfl,hb⟩
  go_wp2_with fail
  go_quiet (fail)
  go_wp2_with fail
  go_ret2
  exact ⟨by rw [HN.out,HR.out];first | rfl | (rw [<-HD.out];rfl),Aa hb (below_drewN _ _)⟩
 | false=>
  have A0:=Sj s hs hr
  have HR:=hZ9 hr
  clear hr
  generalize hn:(PhS.readS s.data.toList).1=n at*
  have HN:=hZ9 hn
  clear hn
  go_enter Tryz.func208,Tryz.ntmps208
  go_wp2_with fail
  refine (A0 _ hE).mono ?_
  rintro e w1 ⟨N,rfl,hb⟩
  go_wp2_with fail
  go_quiet (fail)
  go_wp2_with fail
  go_ret2
  exact ⟨by rw [HN.out,HR.out];first | rfl | (rw [<-HD.out];rfl),Aa hb (below_drewN _ _)⟩
theorem Nc (l:List UInt8) (h:l.getLast?=some 105):Lib.hasSuffix l [105]=true/\Lib.trimSuffix l [105]=l.dropLast:=by
 obtain ⟨r,rfl⟩:=List.getLast?_eq_some_iff.1 h
 have h1:Lib.hasSuffix (r++[105]) [105]=true:=by
  unfold Lib.hasSuffix
  simp
 refine ⟨h1,?_⟩
 unfold Lib.trimSuffix
 rw [if_pos h1]
 simp
theorem Oe (l:List UInt8) (h:l.getLast?≠some 105):Lib.hasSuffix l [105]=false/\Lib.trimSuffix l [105]=l:=by
 have h1:Lib.hasSuffix l [105]=false:=by
  cases hh:Lib.hasSuffix l [105] with
  | false=>rfl
  | true=>
   exfalso
   apply h
   unfold Lib.hasSuffix at hh
   obtain ⟨r,rfl⟩:=List.isSuffixOf_iff_suffix.1 hh
   simp
 refine ⟨h1,?_⟩
 unfold Lib.trimSuffix
 rw [if_neg (by rw [h1];decide)]
theorem Aa4 (l:List UInt8):(PhS.firstOf l).length<=l.length+1:=by
 unfold PhS.firstOf
 split
 · split
   · simp
   · simp;omega
 · omega
theorem Yk (l:List UInt8):(PhS.secondOf l).length<=l.length+2:=by
 unfold PhS.secondOf PhS.bareSecond
 split
 · split
   · simp;omega
   · simp;omega
 · simp
theorem Ul (l:List UInt8):(Lib.hasSuffix l [105]=true->l.getLast?=some 105/\Lib.trimSuffix l [105]=l.dropLast)/\(Lib.hasSuffix l [105]=false->l.getLast?≠some 105/\Lib.trimSuffix l [105]=l):=by
 by_cases h:l.getLast?=some 105
 · obtain ⟨g1,g2⟩:=Nc l h
   exact ⟨fun _=>⟨h,g2⟩,fun hh=>absurd (g1.symm.trans hh) (by decide)⟩
 · obtain ⟨g1,g2⟩:=Oe l h
   exact ⟨fun hh=>absurd (g1.symm.trans hh) (by decide),fun _=>⟨h,g2⟩⟩
theorem Rh (B:ByteArray):B.toList.isEmpty=true\/(B.toList.isEmpty=false/\(B.toList==[43])=true)\/(B.toList.isEmpty=false/\(B.toList==[43])=false/\(B.toList==[45])=true)\/(B.toList.isEmpty=false/\(B.toList==[43])=false/\(B.toList==[45])=false):=by
 cases h0:B.toList.isEmpty with
 | true=>exact .inl rfl
 | false=>
  cases h1:(B.toList==[43]) with
  | true=>exact .inr (.inl ⟨rfl,rfl⟩)
  | false=>
   cases h2:(B.toList==[45]) with
   | true=>exact .inr (.inr (.inl ⟨rfl,rfl,rfl⟩))
   | false=>exact .inr (.inr (.inr ⟨rfl,rfl,rfl⟩))
theorem Iw {A:ByteArray} {l:List UInt8} (h:A=⟨l.toArray⟩):A.toList=l:=by rw [Lib.toList_data,h]
theorem Aa5 {A:ByteArray} {l:List UInt8} (h:A=⟨l.toArray⟩) (h0:A.toList.isEmpty=true):(if l=[] then [48] else l)=[48]:=by
 rw [Iw h] at h0
 rw [if_pos (List.isEmpty_iff.1 h0)]
theorem AcL {A:ByteArray} {l:List UInt8} (h:A=⟨l.toArray⟩) (h0:A.toList.isEmpty=false):(⟨(if l=[] then [48] else l).toArray⟩:ByteArray)=A:=by
 rw [Iw h] at h0
 rw [if_neg (by intro hh;subst hh;cases h0),h]
theorem Um {B:ByteArray} {l:List UInt8} (h:B=⟨l.toArray⟩) (h0:B.toList.isEmpty=true):Value.string (B++⟨#[49]⟩)=Value.string ⟨(if l=[]\/l=[43]\/l=[45] then l++[49] else l).toArray⟩:=by
 rw [Iw h] at h0
 rw [if_pos (.inl (List.isEmpty_iff.1 h0)),h,<-BF]
theorem Un {B:ByteArray} {l:List UInt8} (h:B=⟨l.toArray⟩) (h0:(B.toList==[43])=true):Value.string (B++⟨#[49]⟩)=Value.string ⟨(if l=[]\/l=[43]\/l=[45] then l++[49] else l).toArray⟩:=by
 rw [Iw h] at h0
 rw [if_pos (.inr (.inl (beq_iff_eq.1 h0))),h,<-BF]
theorem Uo {B:ByteArray} {l:List UInt8} (h:B=⟨l.toArray⟩) (h0:(B.toList==[45])=true):Value.string (B++⟨#[49]⟩)=Value.string ⟨(if l=[]\/l=[43]\/l=[45] then l++[49] else l).toArray⟩:=by
 rw [Iw h] at h0
 rw [if_pos (.inr (.inr (beq_iff_eq.1 h0))),h,<-BF]
theorem Ur {B:ByteArray} {l:List UInt8} (h:B=⟨l.toArray⟩) (h0:B.toList.isEmpty=false) (h1:(B.toList==[43])=false) (h2:(B.toList==[45])=false):Value.string B=Value.string ⟨(if l=[]\/l=[43]\/l=[45] then l++[49] else l).toArray⟩:=by
 rw [Iw h] at h0 h1 h2
 rw [if_neg,h]
 rintro (hh | hh | hh)
 · subst hh;cases h0
 · exact beq_eq_false_iff_ne.1 h1 hh
 · exact beq_eq_false_iff_ne.1 h2 hh
def AcM (l:List UInt8) (w:World) (a b:Value) (wc:World):Prop:=
 a=.string ⟨(PhS.firstOf l).toArray⟩/\b=.string ⟨(PhS.secondOf l).toArray⟩/\Below w.heap.size w wc
def Pe (l:List UInt8) (w:World) (e:Ending) (w':World):Prop:=
 e=.returned (match PhS.parseP l with
  | some (a,b)=>.tuple #[.complex .f64 (Fl.D a) (Fl.D b),.int .i64 0]
  | none=>.tuple #[.complex .f64 0 0,.int .i64 2])/\Below w.heap.size w w'
theorem JO (s:ByteArray) (hs:s.size+2<=281474976710656) (w:World) (hE:Env w):
  Calls Tryz.prog 186 #[.string s] w (Pe s.data.toList w):=by
 have A5:=fun w=>Tryz.strings_CutSuffix s ⟨#[105]⟩ w (by omega)
 go_enter Tryz.func186,Tryz.ntmps186
 go_wp2_with fail
 refine (A5 _).mono ?_
 rintro e w1 ⟨rfl,B5⟩
 subst B5
 clear A5
 have A1:=Ul s.data.toList
 have A0:=hZ9 A1
 clear A1
 generalize Lib.trimSuffix s.data.toList (ByteArray.mk #[105]).data.toList=t at*
 generalize Lib.hasSuffix s.data.toList (ByteArray.mk #[105]).data.toList=q at*
 go_upto_if 22 with fail
 go_cut [4,5] (fun a b wc=>AcM s.data.toList w1 a b wc)
 case first=>
  cases q with
  | true=>
   have HT:=hZ9 (A0.out.1 rfl)
   clear A0
   have B9:(⟨t.toArray⟩:ByteArray).size<=281474976710656:=by
    have h3:t.length=s.data.toList.length - 1:=by rw [HT.out.2,List.length_dropLast]
    have h4:=Lib.size_eq s
    show t.length<=_
    omega
   have B0:=fun w hE=>Ug ⟨t.toArray⟩ B9 w hE
   have C2:=PhS.lastW_ge PhS.isSign t
   have B6:=PhS.lastW_lt PhS.isSign t
   have hsz:(⟨t.toArray⟩:ByteArray).size=t.length:=rfl
   rw [<-hsz] at B6
   have HC:Hid (PhS.cutAt s.data.toList=(max (PhS.lastW PhS.isSign t) 0).toNat):=hZ9 (by unfold PhS.cutAt;rw [if_pos HT.out.1,<-HT.out.2])
   unfold LQ at B0
   obtain ⟨m,hm⟩:∃m:Nat,max (PhS.lastW PhS.isSign t) 0=(m:Int):=⟨(max (PhS.lastW PhS.isSign t) 0).toNat,by omega⟩
   generalize PhS.lastW PhS.isSign t=v at*
   have C3:=hZ9 hsz
   clear hsz
   go_wp2_with fail
   refine (B0 _ hE).mono ?_
   rintro e w2 ⟨rfl,A8⟩
   go_wp2_with fail
   have B8:m<=(⟨t.toArray⟩:ByteArray).size:=by omega
   go_quiet (fail)
   have A6:t.length=(⟨t.toArray⟩:ByteArray).size:=rfl
   have B1:((⟨t.toArray⟩:ByteArray).extract 0 m)=⟨(t.take m).toArray⟩:=by
    apply ByteArray.ext;simp
   have B3:((⟨t.toArray⟩:ByteArray).extract m t.length)=⟨(t.drop m).toArray⟩:=by
    apply ByteArray.ext;simp;exact List.take_of_length_le (by simp)
   have hF:PhS.firstOf s.data.toList=if t.take m=[] then [48] else t.take m:=by
    unfold PhS.firstOf
    rw [HC.out,<-HT.out.2,if_pos HT.out.1,hm];rfl
   have hG:PhS.secondOf s.data.toList=if t.drop m=[]\/t.drop m=[43]\/t.drop m=[45] then t.drop m++[49] else t.drop m:=by
    unfold PhS.secondOf PhS.bareSecond
    rw [HC.out,<-HT.out.2,if_pos HT.out.1,hm];rfl
   have C4:((⟨t.toArray⟩:ByteArray).extract m t.length).size<=281474976710656:=by rw [ByteArray.size_extract];omega
   have HF:=hZ9 hF
   have HG:=hZ9 hG
   clear hF hG
   generalize (⟨t.toArray⟩:ByteArray).extract 0 m=A at*
   generalize (⟨t.toArray⟩:ByteArray).extract m t.length=B at*
   have HA:=hZ9 B1
   have HB:=hZ9 B3
   clear B1 B3 A6
   by_cases a0:A.toList.isEmpty=true
   · have a1:=List.isEmpty_iff.1 a0
     rcases Rh B with b0 | ⟨b0,b1⟩ | ⟨b0,b1,b2⟩ | ⟨b0,b1,b2⟩
     all_goals
      go_wp2_with fail
      go_meet
      refine ⟨by rw [HF.out,Aa5 HA.out a0],?_,Aa A8 (below_drewN _ _)⟩
      rw [HG.out]
      first
       | exact Um HB.out b0
       | exact Un HB.out b1
       | exact Uo HB.out b2
       | exact Ur HB.out b0 b1 b2
   · have a1:A.toList.isEmpty=false:=by simpa using a0
     rcases Rh B with b0 | ⟨b0,b1⟩ | ⟨b0,b1,b2⟩ | ⟨b0,b1,b2⟩
     all_goals
      go_wp2_with fail
      go_meet
      refine ⟨by rw [HF.out,AcL HA.out a1],?_,Aa A8 (below_drewN _ _)⟩
      rw [HG.out]
      first
       | exact Um HB.out b0
       | exact Un HB.out b1
       | exact Uo HB.out b2
       | exact Ur HB.out b0 b1 b2
  | false=>
   have HT:=hZ9 (A0.out.2 rfl)
   clear A0
   have HF:Hid (PhS.firstOf s.data.toList=s.data.toList):=hZ9 (by unfold PhS.firstOf;rw [if_neg HT.out.1])
   have HG:Hid (PhS.secondOf s.data.toList=[48]):=hZ9 (by unfold PhS.secondOf;rw [if_neg HT.out.1])
   go_wp2_with fail
   go_meet
   exact ⟨by rw [HF.out],by rw [HG.out],Below.refl _ _⟩
 case rest=>
  obtain ⟨rfl,rfl,hb⟩:=hcut
  have h1:=Aa4 s.data.toList
  have h2:=Yk s.data.toList
  clear A0
  have HP:Hid (PhS.parseP s.data.toList=if (PhS.readS (PhS.firstOf s.data.toList)).2/\(PhS.readS (PhS.secondOf s.data.toList)).2/\PhS.inR (PhS.readS (PhS.firstOf s.data.toList)).1 (PhS.readS (PhS.secondOf s.data.toList)).1=true/\PhS.text (PhS.readS (PhS.firstOf s.data.toList)).1 (PhS.readS (PhS.secondOf s.data.toList)).1=s.data.toList
    then some ((PhS.readS (PhS.firstOf s.data.toList)).1,(PhS.readS (PhS.secondOf s.data.toList)).1) else none):=hZ9 rfl
  have B7:=Lib.size_eq s
  by_cases C0:s.data.toList.length+2<=281474976710656
  · have r1:=fun w hE=>Aa3 ⟨(PhS.firstOf s.data.toList).toArray⟩ (Nat.le_trans h1 (by omega)) w hE
    have r2:=fun w hE=>Aa3 ⟨(PhS.secondOf s.data.toList).toArray⟩ (Nat.le_trans h2 (by omega)) w hE
    unfold Xa at r1 r2
    have g1:=Oc (PhS.firstOf s.data.toList)
    have g2:=Oc (PhS.secondOf s.data.toList)
    simp only at r1 r2
    generalize PhS.readS (PhS.firstOf s.data.toList)=p1 at*
    generalize PhS.readS (PhS.secondOf s.data.toList)=p2 at*
    obtain ⟨n,o1⟩:=p1
    obtain ⟨m,o2⟩:=p2
    simp only at r1 r2 g1 g2 HP
    clear B7 h1 h2
    go_wp2_with fail
    refine (r1 _ (hE.below hb)).mono ?_
    rintro e w3 ⟨rfl,B2⟩
    go_wp2_with fail
    refine (r2 _ ((hE.below hb).below B2)).mono ?_
    rintro e w4 ⟨rfl,B4⟩
    go_wp2_with fail
    have A2:=Aa hb (Aa B2 B4)
    cases A4:PhS.inR n m with
    | true=>
     have A7:=hZ9 A4
     refine (Aa2 n m A4 _ (hE.below A2)).mono ?_
     rintro e w5 ⟨rfl,A3⟩
     clear A4 r1 r2
     cases o1 with
     | false=>
      go_wp2_with fail
      go_ret2
      exact ⟨by rw [HP.out,if_neg (by simp)];rfl,Aa A2 A3⟩
     | true=>
      cases o2 with
      | false=>
       go_wp2_with fail
       go_ret2
       exact ⟨by rw [HP.out,if_neg (by simp)];rfl,Aa A2 A3⟩
      | true=>
       by_cases ht:(PhS.text n m==s.toList)=true
       · have HT:Hid (PhS.text n m=s.data.toList):=hZ9 (by rw [beq_iff_eq.1 ht,Lib.toList_data])
         go_wp2_with fail
         go_ret2
         exact ⟨by rw [HP.out,if_pos ⟨trivial,trivial,A7.out,HT.out⟩];rfl,Aa A2 A3⟩
       · have HT:Hid (¬PhS.text n m=s.data.toList):=hZ9 (by rw [<-Lib.toList_data];intro hh;exact ht (beq_iff_eq.2 hh))
         have C5:(PhS.text n m==s.toList)=false:=by simpa using ht
         clear ht
         go_wp2_with fail
         go_ret2
         exact ⟨by rw [HP.out,if_neg (fun h=>HT.out h.2.2.2)];rfl,Aa A2 A3⟩
    | false=>
     have A7:=hZ9 A4
     have A9:(okB (Fl.D n)&&okB (Fl.D m))=false:=by
      unfold PhS.inR at A4
      have C1:=of_decide_eq_false A4
      by_cases h6:n.natAbs<=1000000
      · rw [WZ (n:=m) (by omega) (by omega),Bool.and_false]
      · rw [WZ (n:=n) (by omega) (by omega),Bool.false_and]
     have HN:Hid (PhS.parseP s.data.toList=none):=hZ9 (by rw [HP.out,if_neg (fun h=>by have:=h.2.2.1;rw [A7.out] at this;cases this)])
     refine (AcK _ _ (Dt (by omega)) (Dt (by omega)) A9 _).mono ?_
     rintro e w5 ⟨rfl,A3⟩
     clear A4 r1 r2 A9
     cases o1 with
     | false=>
      go_wp2_with fail
      go_ret2
      exact ⟨by rw [HN.out];rfl,Aa A2 A3⟩
     | true=>
      cases o2 with
      | false=>
       go_wp2_with fail
       go_ret2
       exact ⟨by rw [HN.out];rfl,Aa A2 A3⟩
      | true=>
       go_wp2_with fail
       go_ret2
       exact ⟨by rw [HN.out];rfl,Aa A2 A3⟩
  · exact absurd hs (by omega)
end
end Go.Proofs.YtgngjfjaelgaeaaGreatDoor
