/- The walks of package phasor and of its reference, first part: which numbers are formed, their parts, their texts. Conditions: as stated. -/
import Derived.Deep.DeepCutAuto
import Derived.Test.YtgngjfjaelgaeaaGreatDoorJPhg
set_option maxRecDepth 100000
set_option maxHeartbeats 1000000
namespace Go.Proofs.YtgngjfjaelgaeaaGreatDoor
open Go.Proofs.Tryz
section
open Go.RowKit
def Wd (x:Nat):Prop:=x<2 ^ 64
def neg (x:Nat):Bool:=decide (2 ^ 63<=x)
def Gw (x:Nat):Nat:=x % 2 ^ 63
theorem Adm (x:Nat) (w:World):∃y w',(callFunc 280 #[.float .f64 x]).run prog w=.ok (.value (.float .f64 y)) w'/\Below w.heap.size w w'/\(FloatKind.f64.format.order x y==some .eq)=Fl.whole x:=by
 have h:=run_callFunc_extern (P:=prog) (f:=280) func280 (by kernel_rfl) rfl (by kernel_rfl) (e:=Extern.MathFloor.toIntegral "math.archTrunc" .zero) (by kernel_rfl) #[.float .f64 x] w
 rw [h];have key:Extern.MathFloor.toIntegral "math.archTrunc" .zero #[.float .f64 x]=(match Ieee.double.read x with
  | .nan s t=>
   if FloatKind.f64.format.quiet t=t then pure (.float .f64 x) else do
   let kept<-choose (.extern "math.Floor,Ceil,Trunc,RoundToEven.signallingNaN kept" 2)
   pure (.float .f64 (if kept==1 then x else FloatKind.f64.encode (.nan s (FloatKind.f64.format.quiet t))))
  | d=>pure (.float .f64 (FloatKind.f64.encode (d.integral .zero)))):=rfl
 rw [key];unfold Fl.whole;cases b:Ieee.double.read x with
 | nan s t=>
  have a:∀y,(FloatKind.f64.format.order x y==some Ordering.eq)=false:=by
   intro y;show (Ieee.double.order x y==some Ordering.eq)=false
   unfold Ieee.Format.order;rw [b];rfl
  simp only;split
  · exact ⟨x,w,rfl,Below.refl _ _,a x⟩
  · exact ⟨_,_,rfl,(Below.refl _ _).drew,a _⟩
 | infinity s=>exact ⟨_,w,rfl,Below.refl _ _,rfl⟩
 | number s m e=>exact ⟨_,w,rfl,Below.refl _ _,rfl⟩
theorem UZ (x:Nat) (w:World):(callFunc 283 #[.float .f64 x]).run prog w=.ok (.value (.int .u64 x)) w:=by rw [run_callFunc_extern (P:=prog) (f:=283) func283 (by kernel_rfl) rfl (by kernel_rfl) (e:=Extern.MathFloatBits.float64bits) (by kernel_rfl) #[.float .f64 x] w];rfl
theorem Adn (x:Int) (w:World):(callFunc 282 #[.int .u64 x]).run prog w=.ok (.value (.float .f64 x.toNat)) w:=by rw [run_callFunc_extern (P:=prog) (f:=282) func282 (by kernel_rfl) rfl (by kernel_rfl) (e:=Extern.MathFloatBits.float64frombits) (by kernel_rfl) #[.int .u64 x] w];rfl
theorem Ado {x:Nat} (hx:Wd x):decide (wrap64 (x:Int)<0)=neg x:=by unfold Wd at hx;unfold neg wrap64;rw [bO];omega
theorem Adp {x:Nat} (hx:Wd x):(bits BinOp.andNot IntKind.u64 (x:Int) 9223372036854775808).toNat=Gw x:=by
 unfold Wd at hx;unfold Gw;rw [u64_andNot _ _ (by omega) (by omega) (by omega) (by omega)];have e:(18446744073709551615 - (9223372036854775808:Int).toNat)=2 ^ 63 - 1:=by decide
 rw [e,Int.toNat_natCast,Int.toNat_natCast,Nat.and_two_pow_sub_one_eq_mod]
theorem RO (x:Nat) (hx:Wd x) (w:World):
  Calls prog 279 #[.float .f64 x] w fun e w'=>e=.returned (.bool (neg x))/\w=w':=by
 have h:=UZ x w;go_enter func279,ntmps279
 go_wp2
 go_ret;exact ⟨congrArg (fun b=>Ending.returned (.bool b)) (Ado hx),rfl⟩
theorem Uc (x:Nat) (hx:Wd x) (w:World):
  Calls prog 278 #[.float .f64 x] w fun e w'=>e=.returned (.float .f64 (Gw x))/\w=w':=by
 have h:=UZ x w;have h2:=fun y=>Adn y w;go_enter func278,ntmps278
 go_wp2
 go_ret;exact ⟨congrArg (fun b=>Ending.returned (.float .f64 b)) (Adp hx),rfl⟩
theorem Ks (x:Nat) (w:World):
  Calls prog 277 #[.float .f64 x] w fun e w'=>∃y,e=.returned (.float .f64 y)/\Below w.heap.size w w'/\(FloatKind.f64.format.order x y==some .eq)=Fl.whole x:=by
 obtain ⟨y,w1,h,hb,a⟩:=Adm x w;go_enter func277,ntmps277
 go_wp2
 go_ret;exact ⟨y,rfl,hb,a⟩
def okB (x:Nat):Bool:=(Fl.numOf x).isSome
theorem XU {x:Nat} (hx:Wd x) (f:Fl.whole x=true) (c:FloatKind.f64.format.order (Gw x) 4696837146684686336=some .lt\/FloatKind.f64.format.order (Gw x) 4696837146684686336=some .eq)
  (e:FloatKind.f64.format.order x 0≠some .eq\/neg x=false):okB x=true:=by
 have a:Fl.dbl.order x 0≠some .eq\/x<2 ^ 63:=by
  rcases e with h | h
  · exact .inl h
  · right;unfold neg at h;have:=ba h;omega
 obtain ⟨n,d⟩:=Fl.part_yes (b:=x) hx f (by rw [Fl.D_million];exact c) a;unfold okB;rw [d];rfl
theorem Va {x:Nat} (h:Fl.whole x=false\/(FloatKind.f64.format.order (Gw x) 4696837146684686336≠some .lt/\FloatKind.f64.format.order (Gw x) 4696837146684686336≠some .eq)\/(FloatKind.f64.format.order x 0=some .eq/\neg x=true)):okB x=false:=by
 cases a:okB x with
 | false=>rfl
 | true=>
  exfalso;unfold okB at a;obtain ⟨n,b⟩:=fc.1 a;obtain ⟨h1,rfl⟩:=Fl.numOf_some b;obtain ⟨p1,p2,p3⟩:=Fl.part_num h1;rw [Fl.D_million] at p2;rcases h with h | h | h
  · rw [p1] at h;cases h
  · rcases p2 with p2 | p2
    · exact h.1 p2
    · exact h.2 p2
  · rcases p3 with p3 | p3
    · exact p3 h.1
    · have:=h.2;unfold neg at this;have:=bB this;omega
theorem QQ {a b:Bool} (h:a=b):Ending.returned (.bool a)=Ending.returned (.bool b):=by rw [h]
theorem Vb (x:Nat) (hx:Wd x) (w:World):
  Calls prog 267 #[.float .f64 x] w fun e w'=>e=.returned (.bool (okB x))/\Below w.heap.size w w':=by
 cases k:Fl.whole x with
 | false=>
  have g:=Va (.inl k);go_enter func267,ntmps267;go_wp2_with (first
   | (go_at_call 277;refine (Ks x _).mono ?_;rintro e w1 ⟨y,rfl,a,i⟩))
  go_ret;exact ⟨QQ g.symm,a⟩
 | true=>
  by_cases c:FloatKind.f64.format.order (Gw x) 4696837146684686336=some .lt\/FloatKind.f64.format.order (Gw x) 4696837146684686336=some .eq
  · have j:(FloatKind.f64.format.order (Gw x) 4696837146684686336==some .lt||FloatKind.f64.format.order (Gw x) 4696837146684686336==some .eq)=true:=by
     rcases c with h | h <;> rw [h] <;> rfl
    cases l:(FloatKind.f64.format.order x 0 !=some .eq) with
    | true=>
     have b:=XU hx k c (.inl (by simpa using l));clear c;go_enter func267,ntmps267;go_wp2_with (first
      | (go_at_call 277;refine (Ks x _).mono ?_;rintro e w1 ⟨y,rfl,a,i⟩)
      | (go_at_call 278;refine (Uc x hx _).mono ?_;rintro e w2 ⟨rfl,rfl⟩))
     go_ret;exact ⟨QQ b.symm,a⟩
    | false=>
     have f:FloatKind.f64.format.order x 0=some .eq:=by simpa using l
     cases m:neg x with
     | false=>
      have b:=XU hx k c (.inr m);clear c f;go_enter func267,ntmps267;go_wp2_with (first
       | (go_at_call 277;refine (Ks x _).mono ?_;rintro e w1 ⟨y,rfl,a,i⟩)
       | (go_at_call 278;refine (Uc x hx _).mono ?_;rintro e w2 ⟨rfl,rfl⟩)
       | (go_at_call 279;refine (RO x hx _).mono ?_;rintro e w3 ⟨rfl,rfl⟩))
      go_ret;exact ⟨QQ b.symm,a⟩
     | true=>
      have b:=Va (.inr (.inr ⟨f,m⟩));clear c f;go_enter func267,ntmps267;go_wp2_with (first
       | (go_at_call 277;refine (Ks x _).mono ?_;rintro e w1 ⟨y,rfl,a,i⟩)
       | (go_at_call 278;refine (Uc x hx _).mono ?_;rintro e w2 ⟨rfl,rfl⟩)
       | (go_at_call 279;refine (RO x hx _).mono ?_;rintro e w3 ⟨rfl,rfl⟩))
      go_ret;exact ⟨QQ b.symm,a⟩
  · have d:FloatKind.f64.format.order (Gw x) 4696837146684686336≠some .lt/\FloatKind.f64.format.order (Gw x) 4696837146684686336≠some .eq:=⟨fun h=>c (.inl h),fun h=>c (.inr h)⟩
    have j:(FloatKind.f64.format.order (Gw x) 4696837146684686336==some .lt||FloatKind.f64.format.order (Gw x) 4696837146684686336==some .eq)=false:=by simp [d.1,d.2]
    have g:=Va (.inr (.inl d));clear c d;go_enter func267,ntmps267;go_wp2_with (first
     | (go_at_call 277;refine (Ks x _).mono ?_;rintro e w1 ⟨y,rfl,a,i⟩)
     | (go_at_call 278;refine (Uc x hx _).mono ?_;rintro e w2 ⟨rfl,rfl⟩))
    go_ret;exact ⟨QQ g.symm,a⟩
end
section
open Go.RowKit
theorem Zd {a c:Int} (b:a.natAbs<=1000000) (hc:c.natAbs<=1000000):FloatKind.f64.format.order (Fl.D a) (Fl.D c)=some (compare a c):=Fl.order_W (Fl.isW_D a) (Fl.isW_D c) (by omega) (by omega)
theorem PZ {a c:Int} (b:a.natAbs<=1000000) (hc:c.natAbs<=1000000):(FloatKind.f64.format.order (Fl.D a) (Fl.D c)==some .eq)=decide (a=c):=by
 rw [Zd b hc];by_cases h:a=c
 · subst h;rw [Fl.compare_self'];simp
 · have:compare a c≠.eq:=fun e=>h (Fl.compare_eq e);simp [h,this]
theorem Aet {a c:Int} (b:a.natAbs<=1000000) (hc:c.natAbs<=1000000):(FloatKind.f64.format.order (Fl.D a) (Fl.D c)==some .gt)=decide (c<a):=by
 rw [Zd b hc];rcases cn a c with h | h | h
 · rw [Fl.cmp_lt h];simp;omega
 · subst h;rw [Fl.compare_self'];simp
 · rw [Fl.cmp_gt h];simp [h]
theorem DZ {a:Int} (b:a.natAbs<=1000000):okB (Fl.D a)=true:=by unfold okB;rw [Fl.numOf_D b];rfl
theorem DJ {a:Int} (b:a.natAbs<2 ^ 53):Wd (Fl.D a):=Fl.D_lt a b
theorem QR {a:Int} (d:a.natAbs<=1000000):floatToIntVal .f64 (Fl.D a) .i64=some a:=by unfold floatToIntVal;have h:(FloatKind.f64.decode (Fl.D a)).toInt .zero=some a:=Fl.toInt_val (Fl.read_D a (by omega)).val;rw [h];have b:IntKind.i64.min=-9223372036854775808:=rfl;have c:IntKind.i64.max=9223372036854775807:=rfl;simp only;rw [b,c,aP (by omega)]
theorem DD (a b:Nat) (f:Wd a) (hb:Wd b) (w:World):
  Calls prog 239 #[.complex .f64 a b] w fun e w'=>e=.returned (.bool (okB a&&okB b))/\Below w.heap.size w w':=by
 cases h1:okB a with
 | false=>
  go_enter func239,ntmps239;go_wp2_with (first
   | (go_at_call 267;refine (Vb a f _).mono ?_;rintro e w1 ⟨rfl,c⟩))
  go_ret;exact ⟨rfl,c⟩
 | true=>go_enter func239,ntmps239;go_wp2_with fail;refine (Vb a f _).mono ?_;rintro e w1 ⟨rfl,c⟩;go_wp2_with fail;refine (Vb b hb _).mono ?_;rintro e w2 ⟨rfl,d⟩;go_wp2_with fail;go_ret;exact ⟨rfl,Aa c d⟩
theorem DL (n:Int) (b:n.natAbs<=1000000) (w:World) (hE:Env w):
  Calls prog 240 #[.float .f64 (Fl.D n)] w fun e w'=>e=.returned (.string ⟨(Lib.itoa n).toArray⟩)/\Below w.heap.size w w':=by
 have c:=fun w=>run_convert_float_int (P:=prog) w 241 2 .f64 .i64 (Fl.D n) n (by kernel_rfl) underlying2 (QR b);go_enter func240,ntmps240;go_wp2_with (first
  | (go_at_call 184;refine (JY n (by omega) (by omega) _ hE).mono ?_;rintro e w1 ⟨rfl,a⟩))
 go_ret;exact ⟨rfl,a⟩
theorem Adq (a b:Nat) (d:Wd a) (hb:Wd b) (h:(okB a&&okB b)=false) (w:World):
  Calls prog 209 #[.complex .f64 a b] w fun e w'=>e=.returned (.tuple #[.string ⟨#[]⟩,.int .i64 1])/\Below w.heap.size w w':=by
 go_enter func209,ntmps209;go_wp2_with (first
  | (go_at_call 239;refine (DD a b d hb _).mono ?_;rintro e w1 ⟨rfl,c⟩))
 go_ret2;exact ⟨rfl,c⟩
theorem Ze (a:Int) (f:a.natAbs<=1000000) (w:World) (hE:Env w):
  Calls prog 209 #[.complex .f64 (Fl.D a) (Fl.D 0)] w fun e w'=>e=.returned (.tuple #[.string ⟨(PhS.text a 0).toArray⟩,.int .i64 0])/\Below w.heap.size w w':=by
 have g:=DZ f;have h:okB (Fl.D 0)=true:=DZ (by decide);have h0:(FloatKind.f64.format.order (Fl.D 0) 0==some .eq)=true:=by have:=PZ (a:=0) (c:=0) (by decide) (by decide);rw [Fl.D_zero] at this⊢;exact this
 go_enter func209,ntmps209;go_wp2_with (first
  | (go_at_call 239;refine (DD _ _ (DJ (by omega)) (DJ (by decide)) _).mono ?_;rintro e w1 ⟨rfl,b⟩)
  | (go_at_call 240;refine (DL a f _ (hE.below b)).mono ?_;rintro e w2 ⟨rfl,d⟩))
 go_ret2;exact ⟨rfl,Aa b d⟩
theorem BQ (l r:List UInt8):(⟨l.toArray⟩++⟨r.toArray⟩:ByteArray)=⟨(l++r).toArray⟩:=by apply eO;simp
theorem str_eq {l r:List UInt8} (h:l=r):(⟨l.toArray⟩:ByteArray)=⟨r.toArray⟩:=by rw [h]
theorem NS (w:World) (hE:Env w):
  Calls prog 240 #[.float .f64 (Fl.D 1)] w fun e w'=>e=.returned (.string ⟨#[49]⟩)/\Below w.heap.size w w':=by
 refine (DL 1 (by decide) w hE).mono ?_;rintro e w' ⟨rfl,hb⟩;exact ⟨by rw [PhS.itoa_one],hb⟩
theorem LI (w:World) (hE:Env w):
  Calls prog 240 #[.float .f64 (Fl.D (-1))] w fun e w'=>e=.returned (.string ⟨#[45,49]⟩)/\Below w.heap.size w w':=by
 refine (DL (-1) (by decide) w hE).mono ?_;rintro e w' ⟨rfl,hb⟩;exact ⟨by rw [PhS.itoa_none],hb⟩
theorem NT (w:World) (hE:Env w):
  Calls prog 241 #[.string (⟨#[49]⟩++⟨#[105]⟩),.string ⟨#[49]⟩,.string ⟨#[]⟩,.int .i64 1] w fun e w'=>e=.returned (.string ⟨#[105]⟩)/\Below w.heap.size w w':=by
 obtain ⟨m,a⟩:=hE.maxLen;have e:(⟨#[49]⟩++⟨#[105]⟩:ByteArray)=⟨#[49,105]⟩:=by decide+kernel
 rw [e];refine (strings_Replace _ _ _ 1 m w (by decide) a (by decide) (by show 2+_*0<=_;omega)).mono ?_;rintro e w' ⟨rfl,hb⟩;exact ⟨congrArg (fun l:List UInt8=>Ending.returned (.string ⟨l.toArray⟩)) (by decide+kernel),hb⟩
theorem LJ (w:World) (hE:Env w):
  Calls prog 241 #[.string (⟨#[45,49]⟩++⟨#[105]⟩),.string ⟨#[49]⟩,.string ⟨#[]⟩,.int .i64 1] w fun e w'=>e=.returned (.string ⟨#[45,105]⟩)/\Below w.heap.size w w':=by
 obtain ⟨m,a⟩:=hE.maxLen;have e:(⟨#[45,49]⟩++⟨#[105]⟩:ByteArray)=⟨#[45,49,105]⟩:=by decide+kernel
 rw [e];refine (strings_Replace _ _ _ 1 m w (by decide) a (by decide) (by show 3+_*0<=_;omega)).mono ?_;rintro e w' ⟨rfl,hb⟩;exact ⟨congrArg (fun l:List UInt8=>Ending.returned (.string ⟨l.toArray⟩)) (by decide+kernel),hb⟩
theorem fz {a:Int} (b:a.natAbs<=1000000):(FloatKind.f64.format.order (Fl.D a) 0==some .eq)=decide (a=0):=by have:=PZ (a:=a) (c:=0) b (by decide);rw [Fl.D_zero] at this;exact this
theorem OL {a:Int} (b:a.natAbs<=1000000):(FloatKind.f64.format.order (Fl.D a) 4607182418800017408==some .eq)=decide (a=1):=by have:=PZ (a:=a) (c:=1) b (by decide);rw [Fl.D_one] at this;exact this
theorem MG {a:Int} (b:a.natAbs<=1000000):(FloatKind.f64.format.order (Fl.D a) 13830554455654793216==some .eq)=decide (a=-1):=by have:=PZ (a:=a) (c:=-1) b (by decide);rw [Fl.D_minus] at this;exact this
theorem Zf {a:Int} (b:a.natAbs<=1000000):(FloatKind.f64.format.order (Fl.D a) 0==some .gt)=decide (0<a):=by have:=Aet (a:=a) (c:=0) b (by decide);rw [Fl.D_zero] at this;exact this
def CY (a b:Int) (w:World) (e:Ending) (w':World):Prop:=e=.returned (.tuple #[.string ⟨(PhS.text a b).toArray⟩,.int .i64 0])/\Below w.heap.size w w'
theorem CY.mk {a b:Int} {w w':World} {s:ByteArray} (h:s=⟨(PhS.text a b).toArray⟩) (hb:Below w.heap.size w w'):CY a b w (.returned (.tuple #[.string s,.int .i64 0])) w':=⟨by rw [h],hb⟩
theorem OM (w:World) (hE:Env w):
  Calls prog 209 #[.complex .f64 (Fl.D 0) (Fl.D 1)] w (CY 0 1 w):=by
 have f:=DZ (a:=0) (by decide);have g:=DZ (a:=1) (by decide);have f1:(FloatKind.f64.format.order (Fl.D 1) 0==some .eq)=false:=fz (by decide);have f2:(FloatKind.f64.format.order (Fl.D 1) 4607182418800017408==some .eq)=true:=OL (by decide);have h:(FloatKind.f64.format.order (Fl.D 0) 0==some .eq)=true:=fz (by decide);go_enter func209,ntmps209;go_wp2_with (first
  | (go_at_call 239;refine (DD _ _ (DJ (by decide)) (DJ (by decide)) _).mono ?_;rintro e w1 ⟨rfl,b⟩)
  | (go_at_call 240;refine (NS _ (hE.below b)).mono ?_;rintro e w2 ⟨rfl,c⟩)
  | (go_at_call 241;refine (NT _ ((hE.below b).below c)).mono ?_;rintro e w3 ⟨rfl,d⟩))
 go_ret2;exact CY.mk (str_eq (by decide+kernel)) (Aa (Aa b c) d)
theorem MH (w:World) (hE:Env w):
  Calls prog 209 #[.complex .f64 (Fl.D 0) (Fl.D (-1))] w (CY 0 (-1) w):=by
 have f:=DZ (a:=0) (by decide);have g:=DZ (a:=-1) (by decide);have f1:(FloatKind.f64.format.order (Fl.D (-1)) 0==some .eq)=false:=fz (by decide);have f2:(FloatKind.f64.format.order (Fl.D (-1)) 4607182418800017408==some .eq)=false:=OL (by decide);have f4:(FloatKind.f64.format.order (Fl.D (-1)) 13830554455654793216==some .eq)=true:=MG (by decide);have h:(FloatKind.f64.format.order (Fl.D 0) 0==some .eq)=true:=fz (by decide);go_enter func209,ntmps209;go_wp2_with (first
  | (go_at_call 239;refine (DD _ _ (DJ (by decide)) (DJ (by decide)) _).mono ?_;rintro e w1 ⟨rfl,b⟩)
  | (go_at_call 240;refine (LI _ (hE.below b)).mono ?_;rintro e w2 ⟨rfl,c⟩)
  | (go_at_call 241;refine (LJ _ ((hE.below b).below c)).mono ?_;rintro e w3 ⟨rfl,d⟩))
 go_ret2;exact CY.mk (str_eq (by decide+kernel)) (Aa (Aa b c) d)
theorem Abe (a:Int) (g:a.natAbs<=1000000) (h0:a≠0) (w:World) (hE:Env w):
  Calls prog 209 #[.complex .f64 (Fl.D a) (Fl.D 1)] w (CY a 1 w):=by
 have l:=PhS.itoa_len (n:=a) (by omega);have i:=DZ g;have k:=DZ (a:=1) (by decide);have f1:(FloatKind.f64.format.order (Fl.D 1) 0==some .eq)=false:=fz (by decide);have f2:(FloatKind.f64.format.order (Fl.D 1) 4607182418800017408==some .eq)=true:=OL (by decide);have m:(FloatKind.f64.format.order (Fl.D a) 0==some .eq)=false:=by rw [fz g];simpa using h0
 have f5:(FloatKind.f64.format.order (Fl.D 1) 0==some .gt)=true:=Zf (by decide);have c:PhS.text a 1=Lib.itoa a++([43]++[105]):=by unfold PhS.text PhS.sec;rw [aG (by decide),aG h0];rfl
 have j:=hZ9 c;clear c;go_enter func209,ntmps209;go_wp2_with fail;refine (DD _ _ (DJ (by omega)) (DJ (by decide)) _).mono ?_;rintro e w1 ⟨rfl,b⟩;go_wp2_with fail;refine (NS _ (hE.below b)).mono ?_;rintro e w2 ⟨rfl,d⟩;go_wp2_with fail;refine (NT _ ((hE.below b).below d)).mono ?_;rintro e w3 ⟨rfl,f⟩;go_wp2_with fail;refine (DL a g _ (((hE.below b).below d).below f)).mono ?_;rintro e w4 ⟨rfl,h⟩;go_wp2_with fail;go_ret2;refine CY.mk ?_ (Aa (Aa (Aa b d) f) h);rw [j.out,<-BQ,<-BQ]
theorem WY (a:Int) (g:a.natAbs<=1000000) (h0:a≠0) (w:World) (hE:Env w):
  Calls prog 209 #[.complex .f64 (Fl.D a) (Fl.D (-1))] w (CY a (-1) w):=by
 have l:=PhS.itoa_len (n:=a) (by omega);have i:=DZ g;have k:=DZ (a:=-1) (by decide);have f1:(FloatKind.f64.format.order (Fl.D (-1)) 0==some .eq)=false:=fz (by decide);have f2:(FloatKind.f64.format.order (Fl.D (-1)) 4607182418800017408==some .eq)=false:=OL (by decide);have f4:(FloatKind.f64.format.order (Fl.D (-1)) 13830554455654793216==some .eq)=true:=MG (by decide);have m:(FloatKind.f64.format.order (Fl.D a) 0==some .eq)=false:=by rw [fz g];simpa using h0
 have f5:(FloatKind.f64.format.order (Fl.D (-1)) 0==some .gt)=false:=Zf (by decide);have c:PhS.text a (-1)=Lib.itoa a++[45,105]:=by unfold PhS.text PhS.sec;rw [aG (by decide),aG h0];rfl
 have j:=hZ9 c;clear c;go_enter func209,ntmps209;go_wp2_with fail;refine (DD _ _ (DJ (by omega)) (DJ (by decide)) _).mono ?_;rintro e w1 ⟨rfl,b⟩;go_wp2_with fail;refine (LI _ (hE.below b)).mono ?_;rintro e w2 ⟨rfl,d⟩;go_wp2_with fail;refine (LJ _ ((hE.below b).below d)).mono ?_;rintro e w3 ⟨rfl,f⟩;go_wp2_with fail;refine (DL a g _ (((hE.below b).below d).below f)).mono ?_;rintro e w4 ⟨rfl,h⟩;go_wp2_with fail;go_ret2;refine CY.mk ?_ (Aa (Aa (Aa b d) f) h);rw [j.out,<-BQ]
theorem Vd (b:Int) (hb:b.natAbs<=1000000) (h0:b≠0) (h1:b≠1) (h2:b≠-1) (w:World) (hE:Env w):
  Calls prog 209 #[.complex .f64 (Fl.D 0) (Fl.D b)] w (CY 0 b w):=by
 have j:=PhS.itoa_len (n:=b) (by omega);have g:=DZ (a:=0) (by decide);have i:=DZ hb;have f1:(FloatKind.f64.format.order (Fl.D b) 0==some .eq)=false:=by rw [fz hb];simpa using h0
 have f2:(FloatKind.f64.format.order (Fl.D b) 4607182418800017408==some .eq)=false:=by rw [OL hb];simpa using h1
 have f4:(FloatKind.f64.format.order (Fl.D b) 13830554455654793216==some .eq)=false:=by rw [MG hb];simpa using h2
 have k:(FloatKind.f64.format.order (Fl.D 0) 0==some .eq)=true:=fz (by decide);have c:PhS.text 0 b=Lib.itoa b++[105]:=by unfold PhS.text PhS.sec;rw [aG h0,aP rfl,aG h1,aG h2]
 have h:=hZ9 c;clear c h0 h1 h2;go_enter func209,ntmps209;go_wp2_with fail;refine (DD _ _ (DJ (by decide)) (DJ (by omega)) _).mono ?_;rintro e w1 ⟨rfl,d⟩;go_wp2_with fail;refine (DL b hb _ (hE.below d)).mono ?_;rintro e w2 ⟨rfl,f⟩;go_wp2_with fail;go_ret2;refine CY.mk ?_ (Aa d f);rw [h.out,<-BQ]
theorem Abf (a b:Int) (h:a.natAbs<=1000000) (hb:b.natAbs<=1000000) (d:a≠0) (h0:0<b) (h1:b≠1) (w:World) (hE:Env w):
  Calls prog 209 #[.complex .f64 (Fl.D a) (Fl.D b)] w (CY a b w):=by
 have o:=PhS.itoa_len (n:=b) (by omega);have k:=PhS.itoa_len (n:=a) (by omega);have j:=DZ h;have m:=DZ hb;have f1:(FloatKind.f64.format.order (Fl.D b) 0==some .eq)=false:=by rw [fz hb];simp;omega
 have f2:(FloatKind.f64.format.order (Fl.D b) 4607182418800017408==some .eq)=false:=by rw [OL hb];simpa using h1
 have f4:(FloatKind.f64.format.order (Fl.D b) 13830554455654793216==some .eq)=false:=by rw [MG hb];simp;omega
 have p:(FloatKind.f64.format.order (Fl.D a) 0==some .eq)=false:=by rw [fz h];simpa using d
 have f5:(FloatKind.f64.format.order (Fl.D b) 0==some .gt)=true:=by rw [Zf hb];simpa using h0
 have c:PhS.text a b=Lib.itoa a++([43]++(Lib.itoa b++[105])):=by unfold PhS.text PhS.sec;rw [aG (by omega),aG d,aP h0,aG h1,aG (by omega)];rfl
 have l:=hZ9 c;clear c d h1;go_enter func209,ntmps209;go_wp2_with fail;refine (DD _ _ (DJ (by omega)) (DJ (by omega)) _).mono ?_;rintro e w1 ⟨rfl,f⟩;go_wp2_with fail;refine (DL b hb _ (hE.below f)).mono ?_;rintro e w2 ⟨rfl,g⟩;go_wp2_with fail;refine (DL a h _ ((hE.below f).below g)).mono ?_;rintro e w3 ⟨rfl,i⟩;go_wp2_with fail;go_ret2;refine CY.mk ?_ (Aa (Aa f g) i);rw [l.out,<-BQ,<-BQ,<-BQ]
theorem Abg (a b:Int) (h:a.natAbs<=1000000) (hb:b.natAbs<=1000000) (d:a≠0) (h0:b<0) (h1:b≠-1) (w:World) (hE:Env w):
  Calls prog 209 #[.complex .f64 (Fl.D a) (Fl.D b)] w (CY a b w):=by
 have o:=PhS.itoa_len (n:=b) (by omega);have k:=PhS.itoa_len (n:=a) (by omega);have j:=DZ h;have m:=DZ hb;have f1:(FloatKind.f64.format.order (Fl.D b) 0==some .eq)=false:=by rw [fz hb];simp;omega
 have f2:(FloatKind.f64.format.order (Fl.D b) 4607182418800017408==some .eq)=false:=by rw [OL hb];simp;omega
 have f4:(FloatKind.f64.format.order (Fl.D b) 13830554455654793216==some .eq)=false:=by rw [MG hb];simpa using h1
 have p:(FloatKind.f64.format.order (Fl.D a) 0==some .eq)=false:=by rw [fz h];simpa using d
 have f5:(FloatKind.f64.format.order (Fl.D b) 0==some .gt)=false:=by rw [Zf hb];simp;omega
 have c:PhS.text a b=Lib.itoa a++(Lib.itoa b++[105]):=by unfold PhS.text PhS.sec;rw [aG (by omega),aG d,aG (by omega),aG (by omega),aG h1]
 have l:=hZ9 c;clear c d h1;go_enter func209,ntmps209;go_wp2_with fail;refine (DD _ _ (DJ (by omega)) (DJ (by omega)) _).mono ?_;rintro e w1 ⟨rfl,f⟩;go_wp2_with fail;refine (DL b hb _ (hE.below f)).mono ?_;rintro e w2 ⟨rfl,g⟩;go_wp2_with fail;refine (DL a h _ ((hE.below f).below g)).mono ?_;rintro e w3 ⟨rfl,i⟩;go_wp2_with fail;go_ret2;refine CY.mk ?_ (Aa (Aa f g) i);rw [l.out,<-BQ,<-BQ]
theorem Abh (a b:Int) (h:PhS.inR a b=true) (w:World) (hE:Env w):
  Calls prog 209 #[.complex .f64 (Fl.D a) (Fl.D b)] w (CY a b w):=by
 have g:a.natAbs<=1000000/\b.natAbs<=1000000:=bB h;obtain ⟨c,hb⟩:=g;by_cases f:b=0
 · subst f;exact Ze a c w hE
 by_cases d:b=1
 · subst d;by_cases a0:a=0
   · subst a0;exact OM w hE
   · exact Abe a c a0 w hE
 by_cases e:b=-1
 · subst e;by_cases a0:a=0
   · subst a0;exact MH w hE
   · exact WY a c a0 w hE
 by_cases a0:a=0
 · subst a0;exact Vd b hb f d e w hE
 by_cases hp:0<b
 · exact Abf a b c hb a0 hp d w hE
 · exact Abg a b c hb a0 (by omega) e w hE
end
section
open Go.RowKit
theorem OO (l:List UInt8):(PhS.readS l).1.natAbs<=2147483648:=by
 unfold PhS.readS;split
 · rename_i v a;have:=Lib.parseIntB_bounds a;simp only;have e:((2 ^ (32 - 1):Nat):Int)=2147483648:=by decide
   rw [e] at this;omega
 · unfold Lib.intSat;simp only;split <;> decide
 · decide
theorem XV {n:Int} (h:n.natAbs<2 ^ 53) (h1:1000000<n.natAbs):okB (Fl.D n)=false:=by unfold okB Fl.numOf;rw [Fl.toInt_val (Fl.read_D n h).val];simp only;rw [aG (by omega)];rfl
def XW (l:List UInt8) (w:World) (e:Ending) (w':World):Prop:=e=.returned (.tuple #[.float .f64 (Fl.D (PhS.readS l).1),.bool (PhS.readS l).2])/\Below w.heap.size w w'
theorem Abi (s:ByteArray) (g:s.size<=281474976710656) (w:World) (hE:Env w):
  Calls prog 208 #[.string s] w (XW s.data.toList w):=by
 have i:=OO s.data.toList;have h:floatOfInt .f64 (PhS.readS s.data.toList).1=Fl.D (PhS.readS s.data.toList).1:=Fl.D_eq _ (by omega);have f:=hZ9 h;clear h;cases b:(PhS.readS s.data.toList).2 with
 | true=>
  have a:=Tt s g b;have HR:=hZ9 b;clear b;generalize c:(PhS.readS s.data.toList).1=n at*;have d:=hZ9 c;clear c;go_enter func208,ntmps208;go_wp2_with fail;refine (a _).mono ?_;rintro e w1 ⟨rfl,hb⟩;go_wp2_with fail
  go_quiet (fail)
  go_wp2_with fail;go_ret2;exact ⟨by rw [d.out,HR.out];first | rfl | (rw [<-f.out];rfl),Aa hb (below_drewN _ _)⟩
 | false=>
  have a:=Tu s g b;have HR:=hZ9 b;clear b;generalize c:(PhS.readS s.data.toList).1=n at*;have d:=hZ9 c;clear c;go_enter func208,ntmps208;go_wp2_with fail;refine (a _ hE).mono ?_;rintro e w1 ⟨N,rfl,hb⟩;go_wp2_with fail
  go_quiet (fail)
  go_wp2_with fail;go_ret2;exact ⟨by rw [d.out,HR.out];first | rfl | (rw [<-f.out];rfl),Aa hb (below_drewN _ _)⟩
theorem NK (l:List UInt8) (h:l.getLast?=some 105):Lib.hasSuffix l [105]=true/\Lib.trimSuffix l [105]=l.dropLast:=by
 obtain ⟨r,rfl⟩:=dm.1 h;have h1:Lib.hasSuffix (r++[105]) [105]=true:=by unfold Lib.hasSuffix;simp
 refine ⟨h1,?_⟩;unfold Lib.trimSuffix;rw [aP h1];simp
theorem OQ (l:List UInt8) (h:l.getLast?≠some 105):Lib.hasSuffix l [105]=false/\Lib.trimSuffix l [105]=l:=by
 have h1:Lib.hasSuffix l [105]=false:=by
  cases a:Lib.hasSuffix l [105] with
  | false=>rfl
  | true=>exfalso;apply h;unfold Lib.hasSuffix at a;obtain ⟨r,rfl⟩:=List.isSuffixOf_iff_suffix.1 a;simp
 refine ⟨h1,?_⟩;unfold Lib.trimSuffix;rw [aG (by rw [h1];decide)]
theorem Abj (l:List UInt8):(PhS.firstOf l).length<=l.length+1:=by
 unfold PhS.firstOf;split
 · split
   · simp
   · simp;omega
 · omega
theorem Zg (l:List UInt8):(PhS.secondOf l).length<=l.length+2:=by
 unfold PhS.secondOf PhS.bareSecond;split
 · split
   · simp;omega
   · simp;omega
 · simp
theorem Ve (l:List UInt8):(Lib.hasSuffix l [105]=true->l.getLast?=some 105/\Lib.trimSuffix l [105]=l.dropLast)/\(Lib.hasSuffix l [105]=false->l.getLast?≠some 105/\Lib.trimSuffix l [105]=l):=by
 by_cases h:l.getLast?=some 105
 · obtain ⟨g1,g2⟩:=NK l h;exact ⟨fun _=>⟨h,g2⟩,fun a=>absurd (g1.symm.trans a) (by decide)⟩
 · obtain ⟨g1,g2⟩:=OQ l h;exact ⟨fun a=>absurd (g1.symm.trans a) (by decide),fun _=>⟨h,g2⟩⟩
theorem RP (B:ByteArray):B.toList.isEmpty=true\/(B.toList.isEmpty=false/\(B.toList==[43])=true)\/(B.toList.isEmpty=false/\(B.toList==[43])=false/\(B.toList==[45])=true)\/(B.toList.isEmpty=false/\(B.toList==[43])=false/\(B.toList==[45])=false):=by
 cases h0:B.toList.isEmpty with
 | true=>exact .inl rfl
 | false=>
  cases h1:(B.toList==[43]) with
  | true=>exact .inr (.inl ⟨rfl,rfl⟩)
  | false=>
   cases h2:(B.toList==[45]) with
   | true=>exact .inr (.inr (.inl ⟨rfl,rfl,rfl⟩))
   | false=>exact .inr (.inr (.inr ⟨rfl,rfl,rfl⟩))
theorem IV {A:ByteArray} {l:List UInt8} (h:A=⟨l.toArray⟩):A.toList=l:=by rw [Lib.toList_data,h]
theorem Abk {A:ByteArray} {l:List UInt8} (h:A=⟨l.toArray⟩) (h0:A.toList.isEmpty=true):(if l=[] then [48] else l)=[48]:=by rw [IV h] at h0;rw [aP (dA.1 h0)]
theorem Adr {A:ByteArray} {l:List UInt8} (h:A=⟨l.toArray⟩) (h0:A.toList.isEmpty=false):(⟨(if l=[] then [48] else l).toArray⟩:ByteArray)=A:=by rw [IV h] at h0;rw [aG (by intro a;subst a;cases h0),h]
theorem Vf {B:ByteArray} {l:List UInt8} (h:B=⟨l.toArray⟩) (h0:B.toList.isEmpty=true):Value.string (B++⟨#[49]⟩)=Value.string ⟨(if l=[]\/l=[43]\/l=[45] then l++[49] else l).toArray⟩:=by rw [IV h] at h0;rw [aP (.inl (dA.1 h0)),h,<-BQ]
theorem Vg {B:ByteArray} {l:List UInt8} (h:B=⟨l.toArray⟩) (h0:(B.toList==[43])=true):Value.string (B++⟨#[49]⟩)=Value.string ⟨(if l=[]\/l=[43]\/l=[45] then l++[49] else l).toArray⟩:=by rw [IV h] at h0;rw [aP (.inr (.inl (af.1 h0))),h,<-BQ]
theorem Vh {B:ByteArray} {l:List UInt8} (h:B=⟨l.toArray⟩) (h0:(B.toList==[45])=true):Value.string (B++⟨#[49]⟩)=Value.string ⟨(if l=[]\/l=[43]\/l=[45] then l++[49] else l).toArray⟩:=by rw [IV h] at h0;rw [aP (.inr (.inr (af.1 h0))),h,<-BQ]
theorem Vi {B:ByteArray} {l:List UInt8} (h:B=⟨l.toArray⟩) (h0:B.toList.isEmpty=false) (h1:(B.toList==[43])=false) (h2:(B.toList==[45])=false):Value.string B=Value.string ⟨(if l=[]\/l=[43]\/l=[45] then l++[49] else l).toArray⟩:=by
 rw [IV h] at h0 h1 h2;rw [aG,h];rintro (a | a | a)
 · subst a;cases h0
 · exact aV.1 h1 a
 · exact aV.1 h2 a
def Ads (l:List UInt8) (w:World) (a b:Value) (wc:World):Prop:=
 a=.string ⟨(PhS.firstOf l).toArray⟩/\b=.string ⟨(PhS.secondOf l).toArray⟩/\Below w.heap.size w wc
def Qa (l:List UInt8) (w:World) (e:Ending) (w':World):Prop:=
 e=.returned (match PhS.parseP l with
  | some (a,b)=>.tuple #[.complex .f64 (Fl.D a) (Fl.D b),.int .i64 0]
  | none=>.tuple #[.complex .f64 0 0,.int .i64 2])/\Below w.heap.size w w'
theorem Kt (s:ByteArray) (hs:s.size+2<=281474976710656) (w:World) (hE:Env w):
  Calls prog 186 #[.string s] w (Qa s.data.toList w):=by
 have o:=fun w=>strings_CutSuffix s ⟨#[105]⟩ w (by omega);go_enter func186,ntmps186;go_wp2_with fail;refine (o _).mono ?_;rintro e w1 ⟨rfl,M⟩;subst M;clear o;have j:=Ve s.data.toList;have c:=hZ9 j;clear j;generalize Lib.trimSuffix s.data.toList (ByteArray.mk #[105]).data.toList=t at*;generalize Lib.hasSuffix s.data.toList (ByteArray.mk #[105]).data.toList=q at*
 go_upto_if 22 with fail
 go_cut [4,5] (fun a b wc=>Ads s.data.toList w1 a b wc)
 case first=>
  cases q with
  | true=>
   have i:=hZ9 (c.out.1 rfl);clear c;have Q:(⟨t.toArray⟩:ByteArray).size<=281474976710656:=by
    have h3:t.length=s.data.toList.length - 1:=by rw [i.out.2,List.length_dropLast]
    have h4:=Lib.size_eq s;show t.length<=_
    omega
   have H:=fun w hE=>UY ⟨t.toArray⟩ Q w hE;have A2:=PhS.lastW_ge PhS.isSign t;have N:=PhS.lastW_lt PhS.isSign t;have hsz:(⟨t.toArray⟩:ByteArray).size=t.length:=rfl;rw [<-hsz] at N;have U:Hid (PhS.cutAt s.data.toList=(max (PhS.lastW PhS.isSign t) 0).toNat):=hZ9 (by unfold PhS.cutAt;rw [aP i.out.1,<-i.out.2]);unfold MF at H;obtain ⟨m,W⟩:∃m:Nat,max (PhS.lastW PhS.isSign t) 0=(m:Int):=⟨(max (PhS.lastW PhS.isSign t) 0).toNat,by omega⟩
   generalize PhS.lastW PhS.isSign t=v at*;have A3:=hZ9 hsz;clear hsz;go_wp2_with fail;refine (H _ hE).mono ?_;rintro e w2 ⟨rfl,C⟩;go_wp2_with fail;have V:m<=(⟨t.toArray⟩:ByteArray).size:=by omega
   go_quiet (fail)
   have x:t.length=(⟨t.toArray⟩:ByteArray).size:=rfl;have G:((⟨t.toArray⟩:ByteArray).extract 0 m)=⟨(t.take m).toArray⟩:=by apply eO;simp
   have F:((⟨t.toArray⟩:ByteArray).extract m t.length)=⟨(t.drop m).toArray⟩:=by apply eO;simp;exact ag (by simp)
   have hF:PhS.firstOf s.data.toList=if t.take m=[] then [48] else t.take m:=by unfold PhS.firstOf;rw [U.out,<-i.out.2,aP i.out.1,W];rfl
   have X:PhS.secondOf s.data.toList=if t.drop m=[]\/t.drop m=[43]\/t.drop m=[45] then t.drop m++[49] else t.drop m:=by unfold PhS.secondOf PhS.bareSecond;rw [U.out,<-i.out.2,aP i.out.1,W];rfl
   have A1:((⟨t.toArray⟩:ByteArray).extract m t.length).size<=281474976710656:=by rw [dX];omega
   have K:=hZ9 hF;have I:=hZ9 X;clear hF X;generalize (⟨t.toArray⟩:ByteArray).extract 0 m=A at*;generalize (⟨t.toArray⟩:ByteArray).extract m t.length=B at*;have Y:=hZ9 G;have p:=hZ9 F;clear G F x;by_cases a0:A.toList.isEmpty=true
   · have a1:=dA.1 a0;rcases RP B with k | ⟨k,l⟩ | ⟨k,l,r⟩ | ⟨k,l,r⟩
     all_goals
      go_wp2_with fail;go_meet;refine ⟨by rw [K.out,Abk Y.out a0],?_,Aa C (below_drewN _ _)⟩;rw [I.out]
      first
       | exact Vf p.out k
       | exact Vg p.out l
       | exact Vh p.out r
       | exact Vi p.out k l r
   · have a1:A.toList.isEmpty=false:=by simpa using a0
     rcases RP B with k | ⟨k,l⟩ | ⟨k,l,r⟩ | ⟨k,l,r⟩
     all_goals
      go_wp2_with fail;go_meet;refine ⟨by rw [K.out,Adr Y.out a1],?_,Aa C (below_drewN _ _)⟩;rw [I.out]
      first
       | exact Vf p.out k
       | exact Vg p.out l
       | exact Vh p.out r
       | exact Vi p.out k l r
  | false=>have i:=hZ9 (c.out.2 rfl);clear c;have K:Hid (PhS.firstOf s.data.toList=s.data.toList):=hZ9 (by unfold PhS.firstOf;rw [aG i.out.1]);have I:Hid (PhS.secondOf s.data.toList=[48]):=hZ9 (by unfold PhS.secondOf;rw [aG i.out.1]);go_wp2_with fail;go_meet;exact ⟨by rw [K.out],by rw [I.out],Below.refl _ _⟩
 case rest=>
  obtain ⟨rfl,rfl,hb⟩:=hcut;have h1:=Abj s.data.toList;have h2:=Zg s.data.toList;clear c;have HP:Hid (PhS.parseP s.data.toList=if (PhS.readS (PhS.firstOf s.data.toList)).2/\(PhS.readS (PhS.secondOf s.data.toList)).2/\PhS.inR (PhS.readS (PhS.firstOf s.data.toList)).1 (PhS.readS (PhS.secondOf s.data.toList)).1=true/\PhS.text (PhS.readS (PhS.firstOf s.data.toList)).1 (PhS.readS (PhS.secondOf s.data.toList)).1=s.data.toList
    then some ((PhS.readS (PhS.firstOf s.data.toList)).1,(PhS.readS (PhS.secondOf s.data.toList)).1) else none):=hZ9 rfl
  have O:=Lib.size_eq s;by_cases S:s.data.toList.length+2<=281474976710656
  · have y:=fun w hE=>Abi ⟨(PhS.firstOf s.data.toList).toArray⟩ (aY h1 (by omega)) w hE;have r2:=fun w hE=>Abi ⟨(PhS.secondOf s.data.toList).toArray⟩ (aY h2 (by omega)) w hE;unfold XW at y r2;have g1:=OO (PhS.firstOf s.data.toList);have g2:=OO (PhS.secondOf s.data.toList);simp only at y r2;generalize PhS.readS (PhS.firstOf s.data.toList)=p1 at*;generalize PhS.readS (PhS.secondOf s.data.toList)=p2 at*;obtain ⟨n,R⟩:=p1;obtain ⟨m,o2⟩:=p2;simp only at y r2 g1 g2 HP;clear O h1 h2;go_wp2_with fail;refine (y _ (hE.below hb)).mono ?_;rintro e w3 ⟨rfl,E⟩;go_wp2_with fail;refine (r2 _ ((hE.below hb).below E)).mono ?_;rintro e w4 ⟨rfl,L⟩;go_wp2_with fail;have d:=Aa hb (Aa E L);cases g:PhS.inR n m with
    | true=>
     have u:=hZ9 g;refine (Abh n m g _ (hE.below d)).mono ?_;rintro e w5 ⟨rfl,f⟩;clear g y r2;cases R with
     | false=>go_wp2_with fail;go_ret2;exact ⟨by rw [HP.out,aG (by simp)];rfl,Aa d f⟩
     | true=>
      cases o2 with
      | false=>go_wp2_with fail;go_ret2;exact ⟨by rw [HP.out,aG (by simp)];rfl,Aa d f⟩
      | true=>
       by_cases J:(PhS.text n m==s.toList)=true
       · have i:Hid (PhS.text n m=s.data.toList):=hZ9 (by rw [af.1 J,Lib.toList_data]);go_wp2_with fail;go_ret2;exact ⟨by rw [HP.out,aP ⟨trivial,trivial,u.out,i.out⟩];rfl,Aa d f⟩
       · have i:Hid (¬PhS.text n m=s.data.toList):=hZ9 (by rw [<-Lib.toList_data];intro Z;exact J (af.2 Z));have A0:(PhS.text n m==s.toList)=false:=by simpa using J
         clear J;go_wp2_with fail;go_ret2;exact ⟨by rw [HP.out,aG (fun h=>i.out h.2.2.2)];rfl,Aa d f⟩
    | false=>
     have u:=hZ9 g;have z:(okB (Fl.D n)&&okB (Fl.D m))=false:=by
      unfold PhS.inR at g;have T:=ba g;by_cases h6:n.natAbs<=1000000
      · rw [XV (n:=m) (by omega) (by omega),bX]
      · rw [XV (n:=n) (by omega) (by omega),cG]
     have P:Hid (PhS.parseP s.data.toList=none):=hZ9 (by rw [HP.out,aG (fun h=>by have:=h.2.2.1;rw [u.out] at this;cases this)]);refine (Adq _ _ (DJ (by omega)) (DJ (by omega)) z _).mono ?_;rintro e w5 ⟨rfl,f⟩;clear g y r2 z;cases R with
     | false=>go_wp2_with fail;go_ret2;exact ⟨by rw [P.out];rfl,Aa d f⟩
     | true=>
      cases o2 with
      | false=>go_wp2_with fail;go_ret2;exact ⟨by rw [P.out];rfl,Aa d f⟩
      | true=>go_wp2_with fail;go_ret2;exact ⟨by rw [P.out];rfl,Aa d f⟩
  · exact absurd hs (by omega)
end
end Go.Proofs.YtgngjfjaelgaeaaGreatDoor
