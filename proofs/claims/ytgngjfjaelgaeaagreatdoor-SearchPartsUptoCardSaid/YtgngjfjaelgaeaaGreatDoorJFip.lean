/- The walk of the program's 'Print' of a part. Conditions: as stated. -/
import Derived.StillTail
import Derived.Test.YtgngjfjaelgaeaaGreatDoorJRdi
set_option maxRecDepth 100000
set_option maxHeartbeats 8000000
namespace Go.Proofs.YtgngjfjaelgaeaaGreatDoor
open Go.Proofs.Tryz
section
open Go.RowKit
def EK (xs:List RdS.Pr) (w:World) (e:Ending) (w':World):Prop:=e=.returned (.tuple #[.string ⟨(RdS.printS xs).1.toArray⟩,.int .i64 (RdS.printS xs).2])/\Below w.heap.size w w'
theorem EK.bad {xs:List RdS.Pr} {w w':World} (h:RdS.formedS xs=false) (hb:Below w.heap.size w w'):EK xs w (.returned (.tuple #[.string ⟨#[]⟩,.int .i64 1])) w':=by unfold EK RdS.printS;rw [h];exact ⟨rfl,hb⟩
def AfD (xs:List RdS.Pr) (w1:World) (i:Value) (wr:World):Prop:=∃k:Nat,k<=xs.length/\i=.int .i64 k/\Bld w1.heap.size w1.heap.size (RdS.Bc xs k) wr/\Below w1.heap.size w1 wr
theorem Ez (l:List UInt8):(⟨l.toArray⟩:ByteArray).size=l.length:=by show l.toArray.size=_;simp
theorem EE (x y:List UInt8) (h1:x.length<=2000000) (h2:y.length<=2000000) (w:World):(Op.stringOp .add ⟨x.toArray⟩ ⟨y.toArray⟩).run prog w=.ok (.string ⟨(x++y).toArray⟩) w:=by rw [<-LS];exact run_string_add_sum w _ _ (by show x.toArray.size+y.toArray.size<=_;simp;omega)
theorem AaG (v:Value) (xs:List RdS.Pr) (w:World) (h:AX w v xs) (hf:EP xs) (hE:Env w):Calls prog 108 #[v] w (EK xs w):=by
 have x:=Ld v xs w h hf hE;unfold JB at x;cases b:RdS.formedS xs with
 | false=>rw [b] at x;have N:=hZ9 b;clear h hf b;go_enter func108,ntmps108;go_wp2_with fail;refine x.mono ?_;rintro e w1 ⟨rfl,j⟩;go_wp2_with fail;go_ret2;exact EK.bad N.out j
 | true=>
  rw [b] at x;have N:=hZ9 b;have S:=hZ9 (RdS.EG b);have A2:=hZ9 (RdS.Lc b);have Z:Hid (RdS.printS xs=(RdS.Bc xs xs.length,0)):=hZ9 (by unfold RdS.printS;rw [aP b]);clear b hf;obtain ⟨a,c,rfl,hc,G⟩:=h;rcases G with rfl | ⟨g,o,rfl,hg,hcell⟩
  · have:=N.out;cases this
  have HC:=hZ9 hcell;generalize hn:xs.length=n at*;have Y:=hZ9 hn;have B0:n<=3:=S.out.1;clear hn hcell;go_enter func108,ntmps108;go_wp2_with fail;refine x.mono ?_;rintro e w1 ⟨rfl,j⟩;have R:g<w1.heap.size:=ae hg j.size;go_wp2_with fail;go_loopw [12] (fun i wr=>AfD xs w1 i wr) (fun i _=>n - (intOf i).toNat)
  case atStart=>exact ⟨0,aR _,rfl,Bld.fresh w1,Af w1 _⟩
  case round=>
   obtain ⟨k,hk,rfl,r,hb⟩:=hrel;rw [Y.out] at hk;have hsz:=hb.size;by_cases A6:k<n
   · have m:k<xs.length:=by rw [Y.out];exact A6
     obtain ⟨c0,c1⟩:=HC.out k _ (aJ m);have X:=hZ9 (RdS.Ih xs k m);have A1:=S.out.2 _ (aZ m);have B1:=A2.out k hk;generalize xs[k]=p at*;obtain ⟨t,u⟩:=p;simp only at c0 c1 A1;have O:Hid (RdS.pairT (t,u)=t++[61]++RdS.Et u):=hZ9 rfl;replace c0:wr.cell? ⟨g,o+k*2,none⟩=some (Ac t):=(hb.cell (p:=⟨g,o+k*2,none⟩) R).trans ((j.cell (p:=⟨g,o+k*2,none⟩) hg).trans c0);replace c1:wr.cell? ⟨g,o+k*2+1,none⟩=some (Ac u):=(hb.cell (p:=⟨g,o+k*2+1,none⟩) R).trans ((j.cell (p:=⟨g,o+k*2+1,none⟩) hg).trans c1);unfold Ac at c0 c1;have A8:=EE t [61] (by omega) (by decide);have A9:(⟨t.toArray⟩++⟨#[61]⟩:ByteArray)=⟨(t++[61]).toArray⟩:=LS t [61];have f:Below w1.heap.size w1 (wr.alloc (.cells #[.string ⟨t.toArray⟩,.string ⟨u.toArray⟩] 190)):=hb.alloc hsz _;have F:=r.alloc (.cells #[.string ⟨t.toArray⟩,.string ⟨u.toArray⟩] 190);have V:=Whole.made wr 190 #[.string ⟨t.toArray⟩,.string ⟨u.toArray⟩];have U:=hZ9 V;have K:Hid (wr.heap.size≠w1.heap.size):=hZ9 (by have:=r.lt.1;omega);clear m r V;by_cases E:k=0
     · have M:Hid (RdS.Bc xs (k+1)=RdS.Bc xs k++(t++[61])++RdS.Et u):=hZ9 (by rw [X.out,aP E,O.out];simp);have A0:decide ((0:Int)<(k:Int))=false:=aC (by omega);have T:decide (0<k)=false:=aC (by omega);clear E;generalize RdS.Bc xs k=acc at*;go_wp2_with fail;have W:acc.length+(⟨(t++[61]).toArray⟩:ByteArray).size<=900000000:=by rw [Ez,aT,bG];omega
       have s:=LG w1.heap.size w1.heap.size acc ⟨(t++[61]).toArray⟩ _ F W f.size;refine s.mono ?_;rintro e w2 ⟨rfl,A,l,z⟩;have B:=z.cell (by decide) K.out U.out;have d1:w2.cell? ⟨wr.heap.size,1,none⟩=some (.string ⟨u.toArray⟩):=B.cell 1;have H:w1.heap.size<=w2.heap.size:=(f.trans l).size;clear z B;go_wp2_with fail;have d:Bld w1.heap.size w1.heap.size (acc++(t++[61])) w2:=A.bld;have y:(acc++(t++[61])).length<=100000000:=by rw [aT,aT,bG];omega
       have q:u.length<=100000000:=by omega
       have J:=Vz w1.heap.size w1.heap.size _ u _ d y q H;clear W y q A d s;refine J.mono ?_;rintro e w3 ⟨rfl,L,I⟩;go_wp2_with fail;go_roundw
       case rel=>exact ⟨k+1,by rw [Y.out];omega,by go_num,by rw [M.out];exact L,(f.trans l).trans I⟩
       case measure=>simp [intOf];omega
     · have M:Hid (RdS.Bc xs (k+1)=RdS.Bc xs k++[43]++(t++[61])++RdS.Et u):=hZ9 (by rw [X.out,aG E,O.out];simp);have A0:(0:Int)<(k:Int):=by omega
       have T:0<k:=by omega
       clear E;generalize RdS.Bc xs k=acc at*;go_wp2_with fail;refine (Ds w1.heap.size w1.heap.size acc 43 _ F (by omega) f.size).mono ?_;rintro e w15 ⟨rfl,A5,C,P⟩;have Q:=P.cell (by decide) K.out U.out;have d0:w15.cell? ⟨wr.heap.size,0,none⟩=some (.string ⟨t.toArray⟩):=Q.cell 0;have A7:w1.heap.size<=w15.heap.size:=(f.trans C).size;clear P;go_wp2_with fail;have W:(acc++[43]).length+(⟨(t++[61]).toArray⟩:ByteArray).size<=900000000:=by rw [Ez,aT,aT,bG,bG];omega
       have s:=LG w1.heap.size w1.heap.size (acc++[43]) ⟨(t++[61]).toArray⟩ _ A5.bld W A7;refine s.mono ?_;rintro e w2 ⟨rfl,A,l,z⟩;have B:=z.cell (by decide) K.out Q;have d1:w2.cell? ⟨wr.heap.size,1,none⟩=some (.string ⟨u.toArray⟩):=B.cell 1;have H:w1.heap.size<=w2.heap.size:=((f.trans C).trans l).size;clear z B;go_wp2_with fail;have d:Bld w1.heap.size w1.heap.size (acc++[43]++(t++[61])) w2:=A.bld;have y:(acc++[43]++(t++[61])).length<=100000000:=by rw [aT,aT,aT,bG,bG];omega
       have q:u.length<=100000000:=by omega
       have J:=Vz w1.heap.size w1.heap.size _ u _ d y q H;clear W y q A d s;refine J.mono ?_;rintro e w3 ⟨rfl,L,I⟩;go_wp2_with fail;go_roundw
       case rel=>exact ⟨k+1,by rw [Y.out];omega,by go_num,by rw [M.out];exact L,((f.trans C).trans l).trans I⟩
       case measure=>simp [intOf];omega
   · have A3:k=n:=by omega
     subst A3;have A4:=Builder_String_any w1.heap.size w1.heap.size (RdS.Bc xs k) wr (by first | exact r | simpa [Bld,Ai,Lib.byteCells] using r) hsz;generalize RdS.Bc xs k=tx at*;go_wp2_with fail;refine A4.mono ?_;rintro e w2 ⟨rfl,l⟩;go_wp2_with fail;go_ret2;exact ⟨by rw [Z.out];rfl,j.trans ((hb.trans l).mono j.size)⟩
end
section
open Go.RowKit
attribute [local go_sem ↓] Go.wp_at_zero Go.wp_at_succ
theorem YQ {w:World} {ops:Array Oper} {o:Oper} {a:Act} {K:Act->World->Prop} {Q:Exit->Act->World->Prop} {E:Prop} (n:o.guard=none) (s x:Operand)
  (r:o.op=.call { callee:=.builtin .append,args:=#[s,x],argTypes:=#[157,157] })
  (B:Nat) (v:Value) (l:List UInt8) (A:a.eval s=v) (b:OwnB w B v l) (g m c:Nat) (hx:a.eval x=.slice (some ⟨g,0,none⟩) m c)
  (ys:List UInt8) (z:ys.length=m) (hc:∀(j:Nat) (y:UInt8),ys[j]?=some y->w.cell? ⟨g,j,none⟩=some (Ai y)) (G:l.length+m<=1000000000) (hB:B<=w.heap.size)
  (C:∀f w',OwnB w' B f (l++ys)->Below B w w'->K (a.put o.dst f) w'):if Region.wanted o (yielded ops a.tmps)=true then Oper.wp prog o a w K Q else E:=by
 have F:Region.wanted o (yielded ops a.tmps)=true:=by simp [Region.wanted,n]
 rw [aP F];obtain ⟨i0,t,h,p,i⟩:=info_parts PT;subst z;refine wp_append_own w s x _ r B 5 i0 (.int .u8 0) 1 1 underlying157 t h p i rfl (by decide) v l.length (l.map Ai) A b ⟨g,0,none⟩ ys.length c (ys.map Ai) hx (by simp)
  (fun j u d=>?_) (fun u hu=>?_) (by unfold maxLen;omega) (by omega) hB (fun f w' h1 h2 _=>C f w' ?_ ?_)
 · rw [bZ] at d;cases q:ys[j]? with
   | none=>rw [q] at d;cases d
   | some y=>
    rw [q] at d;have d:=aU d;subst d;have e:(⟨g,0,none⟩:Addr).add j=⟨g,j,none⟩:=by unfold Addr.add;split <;> simp_all
    rw [e];exact hc j y q
 · obtain ⟨y,_,rfl⟩:=bD.1 hu;rfl
 · unfold OwnB;rw [bP,aT];exact h1
 · exact (Below.refl B w).grown h2 hB (fun k hk=>(World.ownsRow.lt b k hk).1)
def XR (l:List UInt8) (w:World) (out i:Value) (wr:World):Prop:=∃k:Nat,k<=l.length/\i=.int .i64 k/\OwnB wr w.heap.size out (RdS.Dj l k)/\Below w.heap.size w wr
theorem YR (l:List UInt8) (J:l.length<=1000000) (w:World):Calls prog 118 #[.string ⟨l.toArray⟩] w fun e w'=>e=.returned (.string ⟨(RdS.Et l).toArray⟩)/\Below w.heap.size w w':=by
 go_enter func118,ntmps118;go_wp2_with fail;go_loopw [3,4] (fun out i wr=>XR l w out i wr) (fun _ i _=>l.length - (intOf i).toNat)
 case atStart=>exact ⟨0,aR _,rfl,OwnB.empty _ _,Below.refl _ _⟩
 case round=>
  obtain ⟨k,hk,rfl,d,hb⟩:=hrel;have hsz:=hb.size;by_cases s:k<l.length
  · have I:=hZ9 (RdS.IM l k s);have t:=RdS.Jw l k hk;have z:(RdS.Dj l k).length<=3000000:=by omega
    generalize r:l[k]=c at*;have G:∀h,(⟨l.toArray⟩:ByteArray)[k]'h=c:=fun _=>r;clear r t;have F:((k:Int)==0)=decide (k=0):=by rw [bS,af,az];omega
    have el:((k:Int)==(l.length:Int) - 1)=decide (k+1=l.length):=by rw [bS,af,az];omega
    have C:((c.toNat:Int)==32)=(c==32):=Qn rfl;have B:((c.toNat:Int)==35)=(c==35):=Qn rfl;have m:=fun w=>Nq c w;have g:Hid (∀(x:List UInt8) (out i:Value) (w2:World),i=.int .i64 ((k+1:Nat):Int)->RdS.Bv (decide (k=0)) (decide (k+1=l.length)) c=x->OwnB w2 w.heap.size out (RdS.Dj l k++x)->Below w.heap.size w w2->XR l w out i w2):=
     hZ9 (fun x out i w2 H hx h1 h2=>⟨k+1,s,H,by rw [I.out,hx];exact h1,h2⟩)
    have E:Hid (∀f la,(RdS.Av c||(c==32&&(f||la))||(c==35&&f))=true->RdS.Bv f la c=[92,c]):=hZ9 (fun f la h=>BP h);have HX:Hid (∀f la,(RdS.Av c||(c==32&&(f||la))||(c==35&&f))=false->(decide (c.toNat<32)||decide (126<c.toNat))=true->RdS.Bv f la c=[92,RdS.BI (c.toNat / 16),RdS.BI (c.toNat % 16)]):=hZ9 (fun f la h h2=>Jh h h2);have HP:Hid (∀f la,(RdS.Av c||(c==32&&(f||la))||(c==35&&f))=false->(decide (c.toNat<32)||decide (126<c.toNat))=false->RdS.Bv f la c=[c]):=hZ9 (fun f la h h2=>Em h h2);have hx1:=MP c;have q:=MQ c;have hand:bits .and .u8 (c.toNat:Int) 15=(c.toNat:Int) % 16:=u8_and15 (c.toNat:Int) (by omega) (by have:=c.toNat_lt;omega);generalize decide (k+1=l.length)=ql at*;generalize decide (k=0)=qf at*;generalize RdS.Av c=sv at*;generalize (c==32)=z32 at*;generalize (c==35)=z35 at*;generalize RdS.Dj l k=acc at*;by_cases n:(sv||(z32&&(qf||ql))||(z35&&qf))=true
    · have o:=hZ9 (E.out qf ql n);clear hx1 q;cases sv <;> cases z32 <;> cases z35 <;> cases qf <;> cases ql
      all_goals first
       | (exact absurd n (by decide))
       | (clear n
          go_wp2_with fail;refine (m _).mono ?_;rintro e w1 ⟨rfl,rfl⟩;go_wp2_with (at_builtin;refine Eh (by rfl) _ _ (by rfl) w.heap.size _ acc (by rfl) (d.alloc _) wr.heap.size 2 2 (by rfl) [92,c] (by rfl) (CX (by simp [go_sem,Ai]) (by simp [go_sem,Ai])) (by omega) (by simp;omega) ?_)
          intro A w2 a j;go_wp2_with fail;go_roundw
          · first | exact g.out _ _ _ _ (by go_num) o.out a ((hb.alloc hsz _).trans j) | (simp [intOf];omega)
          · first | exact g.out _ _ _ _ (by go_num) o.out a ((hb.alloc hsz _).trans j) | (simp [intOf];omega))
    · have b:(sv||(z32&&(qf||ql))||(z35&&qf))=false:=by simpa using n
      clear n;by_cases hu:c.toNat<32\/126<c.toNat
      · have o:=hZ9 (HX.out qf ql b (by rcases hu with hu | hu <;> simp [hu]));have u:(decide ((c.toNat:Int)<32)=true)\/(decide ((c.toNat:Int)<32)=false/\decide ((126:Int)<(c.toNat:Int))=true):=by
         by_cases h:c.toNat<32
         · exact .inl (aL (by omega))
         · exact .inr ⟨aC (by omega),aL (by omega)⟩
        clear hu;have p:=d;clear d;rcases u with g1 | ⟨g1,g2⟩
        all_goals cases sv <;> cases z32 <;> cases z35 <;> cases qf <;> cases ql
        all_goals first
         | (exact absurd b (by decide))
         | (clear b
            go_wp2_with fail;refine (m _).mono ?_;rintro e w1 ⟨rfl,rfl⟩;go_wp2_with fail
            go_region_law (first | (refine YQ (by rfl) _ _ (by rfl) w.heap.size _ acc (by rfl) (World.ownsRow.alloc p _) wr.heap.size 3 3 (by rfl) [92,RdS.BI (c.toNat / 16),RdS.BI (c.toNat % 16)] (by rfl) (Dt (by simp [go_sem,Ai]) (by simp [go_sem,Ai]) (by simp [go_sem,Ai])) (by omega) (by simp;omega) ?_;intro A w2 a j))
            all_goals go_wp2_with fail
            all_goals go_roundw
            all_goals first | exact g.out _ _ _ _ (by go_num) o.out a ((hb.drew.alloc hsz _).trans j) | (simp [intOf];omega))
      · have o:=hZ9 (HP.out qf ql b (by rw [aC (fun h=>hu (.inl h)),aC (fun h=>hu (.inr h))];rfl));have g1:decide ((c.toNat:Int)<32)=false:=aC (by omega);have g2:decide ((126:Int)<(c.toNat:Int))=false:=aC (by omega);clear hu hx1 q;cases sv <;> cases z32 <;> cases z35 <;> cases qf <;> cases ql
        all_goals first
         | (exact absurd b (by decide))
         | (clear b
            go_wp2_with fail;refine (m _).mono ?_;rintro e w1 ⟨rfl,rfl⟩;go_wp2_with (at_builtin;refine Eh (by rfl) _ _ (by rfl) w.heap.size _ acc (by rfl) (d.alloc _) wr.heap.size 1 1 (by rfl) [c] (by rfl) (by first | exact one_cell (by simp [go_sem,Ai]) | exact Fh _) (by omega) (by simp;omega) ?_)
            intro A w2 a j;go_wp2_with fail;go_roundw
            · first | exact g.out _ _ _ _ (by go_num) o.out a ((hb.alloc hsz _).trans j) | (simp [intOf];omega)
            · first | exact g.out _ _ _ _ (by go_num) o.out a ((hb.alloc hsz _).trans j) | (simp [intOf];omega))
  · have v:k=l.length:=by omega
    subst v;have y:=d.back;have o:Hid (RdS.Dj l l.length=RdS.Et l):=hZ9 rfl;clear d;go_wp2_with fail;go_ret;exact ⟨by rw [<-o.out];rfl,hb⟩
end
section
open Go
section
variable {P:Program} {ops:Array Oper} {Q:Exit->Act->World->Prop} {md:Region.Mode} {S:World->Prop}
def JX (P:Program) (md:Region.Mode) (ops:Array Oper) (Q:Exit->Act->World->Prop) (S:World->Prop) (n:Nat) (L:Array Bool->Act->World->Prop):Nat->Array Bool->Act->World->Prop
 | 0,listed,a,w=>L listed a w
 | f+1,listed,a,w=>Region.ready md ops listed≠[]/\∀i ∈ Region.ready md ops listed,i<n/\wpOp P ops Q i (fun b w'=>S w'/\JX P md ops Q S n L f (listed.setIfInBounds i true) b w') a w
theorem Jp {n g:Nat} {L:Array Bool->Act->World->Prop} (b:∀listed a w,L listed a w->wpAny P md ops Q g listed a w):
  ∀(f:Nat) (listed:Array Bool) (a:Act) (w:World),JX P md ops Q S n L f listed a w->wpAny P md ops Q (f+g) listed a w
 | 0,listed,a,w,h=>by rw [bi];exact b _ _ _ h
 | f+1,listed,a,w,h=>by rw [show f+1+g=(f+g)+1 by omega];exact ⟨fun h0=>absurd h0 h.1,fun i d=>wpOp_mono (fun c w' e=>Jp b f _ c w' e.2) (h.2 i d).2⟩
theorem UF {n i:Nat} {u:Oper} {v:Value} {L:Array Bool->Act->World->Prop} (J:ops[i]?=some u) (r:∀(j:Nat) (o:Oper) cs b,ops[j]?=some o->o.op≠.select cs b)
  (M:Region.sinkB md ops n=true) (hc:Region.chainB md ops n=true) (K:n<ops.size) (A:i<n)
  (N:∀c a w,Q (.panic c) (a.put u.dst v) w->Q (.panic c) a w)
  (x:∀listed a w,L listed a w->∀j ∈ Region.ready md ops listed,n<=j):
  ∀(f:Nat) (listed:Array Bool) (a:Act) (w:World),HeadInv md ops n listed->
   (∀j oj,ops[j]?=some oj->j≠i->listed.getD j true=false->(∀e ∈ oj.after,Region.binds md e=true->e.on≠i)->u.apart ops oj=true)->
   i ∈ Region.ready md ops listed->YieldsIf P ops S u v a->S w->
   JX P md ops Q S n L f (listed.setIfInBounds i true) (a.put u.dst v) w->JX P md ops Q S n L (f+1) listed a w:=by
 intro f
 induction f with
 | zero=>
  intro listed a w inv _ s E hS H;have g:=(mem_ready.1 s).1;refine ⟨fun h=>(by rw [h] at s;cases s),fun j y=>?_⟩;have m:j<n:=by
   rcases dw j n with h | h
   · exact h
   · exact absurd y (tail_waits M hc K inv _ i rfl A g j h)
  refine ⟨m,?_⟩;by_cases d:j=i
  · subst d;exact E.wpOp J hS ⟨hS,H⟩
  · have:=x _ _ _ H j (ready_mono y d);omega
 | succ f R=>
  intro listed a w inv l s E hS H;have g:=(mem_ready.1 s).1;refine ⟨fun h=>(by rw [h] at s;cases s),fun j y=>?_⟩;have m:j<n:=by
   rcases dw j n with h | h
   · exact h
   · exact absurd y (tail_waits M hc K inv _ i rfl A g j h)
  refine ⟨m,?_⟩;by_cases d:j=i
  · subst d;exact E.wpOp J hS ⟨hS,H⟩
  · have h1:=(H.2 j (ready_mono y d)).2;obtain ⟨q,oj,t,B⟩:=mem_ready.1 y;have C:∀e ∈ oj.after,Region.binds md e=true->e.on≠i:=fun e O hb G=>by
     have h1:=B e O hb;rw [G,getD_both g] at h1;cases h1
    have h2:=wpOp_putIf t (l j oj t d q C) (fun cs b=>r i u cs b J) (fun cs b=>r j oj cs b t) N E h1;have p:∀k ok,ops[k]?=some ok->k≠i->(listed.setIfInBounds j true).getD k true=false->
      (∀e ∈ ok.after,Region.binds md e=true->e.on≠i)->u.apart ops ok=true:=fun k ok hk F g I=>by
     refine l k ok hk F ?_ I;by_cases z:j=k
     · subst z;exact q
     · rw [getD_set_ne true z] at g;exact g
    refine wpOp_mono (fun T w' h3=>⟨h3.2.1,R (listed.setIfInBounds j true) T w' (inv.set y m) p (ready_mono s (Ne.symm d)) h3.1 h3.2.1 ?_⟩) h2;rw [Array.setIfInBounds_comm _ _ d];exact h3.2.2
end
def Ub (l:List Oper) (n:Nat):Bool:=Region.noSelect l.toArray&&decide (n<l.length)&&Region.sinkB .any l.toArray n&&Region.chainB .any l.toArray n
def BR (m:Nat) (is:List Nat):Array Bool:=is.foldl (fun l i=>l.setIfInBounds i true) (Array.replicate m false)
theorem Ed (m:Nat) (is:List Nat) (i:Nat):(BR m is).setIfInBounds i true=BR m (is++[i]):=by unfold BR;rw [dE];rfl
section
variable {P:Program} {l:List Oper} {Q:Exit->Act->World->Prop} {S:World->Prop} {n:Nat}
def Nu (P:Program) (l:List Oper) (Q:Exit->Act->World->Prop) (n:Nat) (listed:Array Bool) (a:Act) (w:World):Prop:=
 Region.seqB .any l.toArray (l.length - n) n listed=true/\wpList P l.toArray Q (l.drop n) a w
def Head (P:Program) (l:List Oper) (Q:Exit->Act->World->Prop) (S:World->Prop) (n f:Nat) (is:List Nat) (a:Act) (w:World):Prop:=
 HeadInv .any l.toArray n (BR l.length is)/\Ub l n=true->JX P .any l.toArray Q S n (Nu P l Q n) f (BR l.length is) a w
theorem UG {listed:Array Bool} {a:Act} {w:World} (h:Nu P l Q n listed a w):∀j ∈ Region.ready .any l.toArray listed,n<=j:=seqB_ready h.1
theorem PQ (h:Ub l n=true):Region.noSelect l.toArray=true/\n<l.toArray.size/\Region.sinkB .any l.toArray n=true/\Region.chainB .any l.toArray n=true:=by simp only [Ub,bA,az] at h;exact ⟨h.1.1.1,by simpa using h.1.1.2,h.1.2,h.2⟩
theorem Bo {c:Bool} (hc:c=true) {X E:Prop} (h:X):if c=true then X else E:=by rw [aP hc];exact h
theorem FU {id:Nat} {a:Act} {w:World} (n:Nat) (S:World->Prop) (i:P.follows .mixedOrders=true) (hB:Ub l n=true) (hS:S w.drew)
  (h:S w.drew->Head P l Q S n n [] a w.drew):(Code.region id l.toArray true).wp P Q a w:=by
 obtain ⟨e,f,o,hc⟩:=PQ hB;have m:n<l.length:=by simpa using f
 have b:HeadInv .any l.toArray n (BR l.length []):=
  ⟨by simp [BR],fun j oj _ c=>(by unfold BR at c;simp only [List.foldl_nil] at c;rw [getD_replicate_false] at c;cases c),fun t _ k=>getD_in (by simpa [BR] using k) (getD_replicate_false _ _)⟩
 have H:=h hS ⟨b,hB⟩;refine wp_region_any i ?_;have h2:=Jp (P:=P) (md:=.any) (ops:=l.toArray) (Q:=Q) (S:=S) (n:=n) (g:=l.length - n) (L:=Nu P l Q n) (fun listed a w d=>by
  have:=wpAny_of_seq (P:=P) (md:=.any) (ops:=l.toArray) (Q':=Q) (l.drop n) n listed a w (fun j=>by simp [List.getElem?_drop]) (by rw [bI];exact d.1) d.2
  rwa [bI] at this) n _ a _ H
 rw [show n+(l.length - n)=l.length by omega] at h2;have h3:l.toArray.size=l.length:=by simp
 rw [h3];exact h2
theorem Ag {f:Nat} {is:List Nat} {a:Act} {w:World} (i:Nat) (v:Value) (d:i<l.length) (m:(decide (i<n)&&Region.free .any l.toArray (BR l.length is) i&&(Region.ready .any l.toArray (BR l.length is)).contains i)=true)
  (q:∀c a w,Q (.panic c) (a.put (l[i]'d).dst v) w->Q (.panic c) a w) (u:Region.wanted (l[i]'d) (yielded l.toArray a.tmps)=true) (p:∀W,S W->(execOp a.eval (l[i]'d)).run P W=.ok (.value v) W) (hS:S w)
  (h:Head P l Q S n f (is++[i]) (a.put (l[i]'d).dst v) w):Head P l Q S n (f+1) is a w:=by
 have s:YieldsIf P l.toArray S (l[i]'d) v a:=.inl ⟨u,p⟩;intro ⟨inv,hB⟩;obtain ⟨k,r,t,hc⟩:=PQ hB;simp only [bA,az] at m;obtain ⟨⟨e,b⟩,o⟩:=m;have j:i ∈ Region.ready .any l.toArray (BR l.length is):=by simpa using o
 have g:l.toArray[i]?=some (l[i]'d):=by simp [d]
 refine UF g (Region.noSelect_spec k) t hc r e q (fun _ _ _=>UG) f _ a w inv (Region.free_spec g b) j s hS ?_;rw [Ed];refine h ⟨?_,hB⟩;rw [<-Ed];exact inv.set j e
theorem Bq {f:Nat} {is:List Nat} {a:Act} {w:World} (i:Nat) (e:i<l.length) (b:(decide (i<n)&&decide (Region.ready .any l.toArray (BR l.length is)=[i]))=true)
  (h:∀d:Act->World->Prop,Shut (∀a w,S w->(S w->Head P l Q S n f (is++[i]) a w)->d a w)->if Region.wanted (l[i]'e) (yielded l.toArray a.tmps)=true then Oper.wp P (l[i]'e) a w d Q else d (a.put (l[i]'e).dst undef) w):
  Head P l Q S n (f+1) is a w:=by
 intro ⟨inv,hB⟩;simp only [bA,az] at b;obtain ⟨c,b⟩:=b;have k:l.toArray[i]?=some (l[i]'e):=by simp [e]
 have g:i ∈ Region.ready .any l.toArray (BR l.length is):=by rw [b];simp
 refine ⟨by rw [b];simp,fun j o=>?_⟩;rw [b] at o;have m:j=i:=by simpa using o
 subst m;refine ⟨c,wpOp_step k (fun d p=>h d (fun q w' hS hW=>p q w' ⟨hS,?_⟩))⟩;rw [Ed];refine hW hS ⟨?_,hB⟩;rw [<-Ed];exact inv.set g c
theorem OE {f:Nat} {is:List Nat} {a:Act} {w:World} (i j:Nat) (p:i<l.length) (q:j<l.length) (e:(decide (i<n)&&decide (j<n)&&decide (Region.ready .any l.toArray (BR l.length is)=[i,j]))=true)
  (h1:∀b:Act->World->Prop,Shut (∀a w,S w->(S w->Head P l Q S n f (is++[i]) a w)->b a w)->if Region.wanted (l[i]'p) (yielded l.toArray a.tmps)=true then Oper.wp P (l[i]'p) a w b Q else b (a.put (l[i]'p).dst undef) w)
  (h2:∀b:Act->World->Prop,Shut (∀a w,S w->(S w->Head P l Q S n f (is++[j]) a w)->b a w)->if Region.wanted (l[j]'q) (yielded l.toArray a.tmps)=true then Oper.wp P (l[j]'q) a w b Q else b (a.put (l[j]'q).dst undef) w):
  Head P l Q S n (f+1) is a w:=by
 intro ⟨inv,hB⟩;simp only [bA,az] at e;obtain ⟨⟨d,g⟩,e⟩:=e;have step:∀m (c:m<l.length),m<n->m ∈ Region.ready .any l.toArray (BR l.length is)->(∀b:Act->World->Prop,Shut (∀a w,S w->(S w->Head P l Q S n f (is++[m]) a w)->b a w)->if Region.wanted (l[m]'c) (yielded l.toArray a.tmps)=true then Oper.wp P (l[m]'c) a w b Q else b (a.put (l[m]'c).dst undef) w)->
   wpOp P l.toArray Q m (fun u w'=>S w'/\JX P .any l.toArray Q S n (Nu P l Q n) f ((BR l.length is).setIfInBounds m true) u w') a w:=by
  intro m c r o h;have t:l.toArray[m]?=some (l[m]'c):=by simp [c]
  refine wpOp_step t (fun b v=>h b (fun u w' hS hW=>v u w' ⟨hS,?_⟩));rw [Ed];refine hW hS ⟨?_,hB⟩;rw [<-Ed];exact inv.set o r
 refine ⟨by rw [e];simp,fun m c=>?_⟩;have k:=c;rw [e] at c;rcases ay.1 c with rfl | c
 · exact ⟨d,step _ p d k h1⟩
 · have s:m=j:=by simpa using c
   subst s;exact ⟨g,step _ q g k h2⟩
theorem EL {is:List Nat} {a:Act} {w:World} (b:Region.seqB .any l.toArray (l.length - n) n (BR l.length is)=true) (h:wpList P l.toArray Q (l.drop n) a w):Head P l Q S n 0 is a w:=
 fun _=>⟨b,h⟩
end
end
section
open Go.RowKit
open FiS (Fi)
attribute [local go_sem ↓] Go.wp_at_zero Go.wp_at_succ
def sev (w:World) (g:Nat) (v0 a v2 v3 v4 v5 b:Value):World:=((((((w.setCell ⟨g,0,none⟩ v0).setCell ⟨g,1,none⟩ a).setCell ⟨g,2,none⟩ v2).setCell ⟨g,3,none⟩ v3).setCell ⟨g,4,none⟩ v4).setCell ⟨g,5,none⟩ v5).setCell ⟨g,6,none⟩ b
theorem Whole.put7 {w:World} {g:Nat} {t:TypeId} {a0 a1 a2 a3 a4 a5 c:Value} (h:Whole w g t #[a0,a1,a2,a3,a4,a5,c]) (v0 a v2 v3 v4 v5 b:Value):Whole (sev w g v0 a v2 v3 v4 v5 b) g t #[v0,a,v2,v3,v4,v5,b]:=by have:=((((((h.put 0 v0).put 1 a).put 2 v2).put 3 v3).put 4 v4).put 5 v5).put 6 b;simp only [aF,aN,aQ] at this;unfold sev;exact this
theorem Whole.other7 {w:World} {g b:Nat} {t:TypeId} {cs:Array Value} (h:Whole w b t cs) (a:b≠g) (v0 c v2 v3 v4 v5 d:Value):Whole (sev w g v0 c v2 v3 v4 v5 d) b t cs:=
 ((((((h.other (p:=⟨g,0,none⟩) a v0).other (p:=⟨g,1,none⟩) a c).other (p:=⟨g,2,none⟩) a v2).other (p:=⟨g,3,none⟩) a v3).other (p:=⟨g,4,none⟩) a v4).other (p:=⟨g,5,none⟩) a v5).other (p:=⟨g,6,none⟩) a d
theorem Eg {B:Nat} {w0 w:World} {g:Nat} (h:Below B w0 w) (a:B<=g) (v0 b v2 v3 v4 v5 c:Value):Below B w0 (sev w g v0 b v2 v3 v4 v5 c):=
 ((((((h.setCell (p:=⟨g,0,none⟩) a v0).setCell (p:=⟨g,1,none⟩) a b).setCell (p:=⟨g,2,none⟩) a v2).setCell (p:=⟨g,3,none⟩) a v3).setCell (p:=⟨g,4,none⟩) a v4).setCell (p:=⟨g,5,none⟩) a v5).setCell (p:=⟨g,6,none⟩) a c
theorem Whole.thaws {w:World} {g:Nat} {t:TypeId} {cs:Array Value} (h:Whole w g t cs):w.frozen? ⟨g,0,none⟩=false/\w.frozen? ⟨g,1,none⟩=false/\w.frozen? ⟨g,2,none⟩=false/\w.frozen? ⟨g,3,none⟩=false/\w.frozen? ⟨g,4,none⟩=false/\w.frozen? ⟨g,5,none⟩=false/\w.frozen? ⟨g,6,none⟩=false:=
 ⟨h.thaw 0,h.thaw 1,h.thaw 2,h.thaw 3,h.thaw 4,h.thaw 5,h.thaw 6⟩
theorem Whole.same {w:World} {g:Nat} {t:TypeId} {cs:Array Value} (h:Whole w g t cs) {i:Nat} {v:Value} (a:cs[i]?=some v):w.setCell ⟨g,i,none⟩ v=w:=by
 have e:(w.setCell ⟨g,i,none⟩ v).heap=w.heap:=by
  apply gZ;intro k;by_cases hk:k=g
  · subst hk;have h1:w.heap[k]?=some (.cells cs t (0,0)):=h;have h2:=h.put i v;unfold Whole at h2;rw [h2,h1];congr 2;apply gZ;intro j;rw [ei];split
    · rename_i b;subst b;rw [a];split
      · rfl
      · rename_i c;rw [eK (by omega)] at a;cases a
    · rfl
  · exact Below.heap_setCell _ _ _ _ hk
 show ({ w with heap:=(w.setCell ⟨g,i,none⟩ v).heap }:World)=w
 rw [e]
def AaH (v:Value):Prop:=∃(x:Fi) (d a:Option Addr) (c c1 b c2:Nat),v=.agg #[.int .i64 x.kind,.string ⟨x.attr.toArray⟩,.string ⟨x.value.toArray⟩,.string ⟨x.first.toArray⟩,.string ⟨x.last.toArray⟩,.slice d c c1,.slice a b c2]
theorem FiV.form {n:Nat} {ok:Nat->Prop} {w:World} {v:Value} {x:Fi} (h:FiV n ok w v x):AaH v:=by obtain ⟨b,up,rfl,h1,h2⟩:=h;obtain ⟨a5,c5,rfl,_⟩:=Ad.form h1;obtain ⟨c,a,rfl,_⟩:=Ad.form h2;exact ⟨x,_,_,_,_,_,_,rfl⟩
def IU (l:List UInt8) (w:World) (e:Ending) (w':World):Prop:=∃v,e=.returned (.tuple #[v,.bool (FiS.Nz l).isSome])/\AaH v/\(∀x,FiS.Nz l=some x->∀n,FiV n (fun g=>w.heap.size<=g) w' v x)/\Below w.heap.size w w'
theorem FiV.leaf (n:Nat) (ok:Nat->Prop) (w:World) (k:Int) (a v f l:List UInt8):FiV n ok w (.agg #[.int .i64 k,.string ⟨a.toArray⟩,.string ⟨v.toArray⟩,.string ⟨f.toArray⟩,.string ⟨l.toArray⟩,.slice none 0 0,.slice none 0 0]) (.mk k a v f l [] []):=
 ⟨_,_,rfl,Ad.nil none 0,Ad.nil none 0⟩
theorem IU.no {l a:List UInt8} {k:Int} {w w':World} (h:FiS.Nz l=none) (hb:Below w.heap.size w w'):
  IU l w (.returned (.tuple #[.agg #[.int .i64 k,.string ⟨a.toArray⟩,.string ⟨#[]⟩,.string ⟨#[]⟩,.string ⟨#[]⟩,.slice none 0 0,.slice none 0 0],.bool false])) w':=by
 refine ⟨_,by rw [h];rfl,⟨.mk k a [] [] [] [] [],none,none,0,0,0,0,rfl⟩,fun x hx=>(by rw [h] at hx;cases hx),hb⟩
theorem IU.one {l a v:List UInt8} {k:Int} {w w':World} (h:FiS.Nz l=some (.mk k a v [] [] [] [])) (hb:Below w.heap.size w w'):
  IU l w (.returned (.tuple #[.agg #[.int .i64 k,.string ⟨a.toArray⟩,.string ⟨v.toArray⟩,.string ⟨#[]⟩,.string ⟨#[]⟩,.slice none 0 0,.slice none 0 0],.bool true])) w':=by
 refine ⟨_,by rw [h];rfl,⟨.mk k a v [] [] [] [],none,none,0,0,0,0,rfl⟩,fun x hx n=>?_,hb⟩;rw [h] at hx;have hx:=aU hx;subst hx;exact FiV.leaf n _ _ k a v [] []
theorem IU.many {l a f t:List UInt8} {s:List (List UInt8)} {b:Value} {w w':World} (h:FiS.Nz l=some (.mk 4 a [] f t s [])) (c:Aj (fun g=>w.heap.size<=g) w' b s) (hb:Below w.heap.size w w'):
  IU l w (.returned (.tuple #[.agg #[.int .i64 4,.string ⟨a.toArray⟩,.string ⟨#[]⟩,.string ⟨f.toArray⟩,.string ⟨t.toArray⟩,b,.slice none 0 0],.bool true])) w':=by
 obtain ⟨d,sc,rfl,_⟩:=Ad.form c;refine ⟨_,by rw [h];rfl,⟨.mk 4 a [] f t s [],_,_,_,_,_,_,rfl⟩,fun x hx n=>?_,hb⟩;rw [h] at hx;have hx:=aU hx;subst hx;exact ⟨_,_,rfl,c,Ad.nil none 0⟩
end
section
open Go.RowKit
open FiS (Fi)
attribute [local go_sem ↓] Go.wp_at_zero Go.wp_at_succ
theorem FiV.partsO {n:Nat} {ok:Nat->Prop} {w:World} {v:Value} {x:Fi} (h:FiV n ok w v x):∃a5 c5 b a,v=.agg #[.int .i64 x.kind,.string ⟨x.attr.toArray⟩,.string ⟨x.value.toArray⟩,.string ⟨x.first.toArray⟩,.string ⟨x.last.toArray⟩,.slice a5 x.any.length c5,.slice b x.parts.length a]/\Aj ok w (.slice a5 x.any.length c5) x.any/\x.parts.length<=a/\BC n ok w (.slice b x.parts.length a) x.parts:=by obtain ⟨c,up,rfl,h1,h2⟩:=h;obtain ⟨a5,c5,rfl,_⟩:=Ad.form h1;obtain ⟨b,a,rfl,hc⟩:=Ad.form h2;exact ⟨a5,c5,b,a,rfl,h1,hc,h2⟩
end
section
namespace FiS
theorem UH:∀{s a b:List UInt8},ZK s=some (a,b)->b.length<=s.length
 | [],a,b,h=>by cases h
 | c :: r,a,b,h=>by
  rw [ZK] at h;split at h
  · simp only [bn,bR] at h;rw [<-h.2];simp
  · rw [bH] at h;obtain ⟨⟨x,y⟩,h1,h2⟩:=h;simp only [bR] at h2;have:=UH h1;rw [<-h2.2,aO];omega
theorem AaI {s:List UInt8} {c:UInt8} {r:List UInt8} (h:ZM s=some (c,r)):s=40 :: c :: r:=by
 match s,h with
 | [],h=>cases h
 | [_],h=>cases h
 | b :: c' :: r',h=>
  have h:(if b=40 then some (c',r') else none)=some (c,r):=h;by_cases hb:b=40
  · rw [aP hb] at h;simp only [bn,bR] at h;rw [hb,h.1,h.2]
  · rw [aG hb] at h;cases h
theorem AaJ:∀(F n d:Nat) (s:List UInt8),(∀x r m,FY F n d s=some (x,r,m)->r.length<=s.length)/\(∀x r m,ES F n d s=some (x,r,m)->r.length<=s.length):=by
 intro F
 induction F with
 | zero=>intro n d s;exact ⟨fun x r m h=>by simp [FY] at h,fun x r m h=>by simp [ES] at h⟩
 | succ F b=>
  intro n d s;refine ⟨fun x r m h=>?_,fun x r m h=>?_⟩
  · rw [FY] at h;split at h
    · cases h
    · split at h
      · cases h
      · rename_i c l g;have e:=AaI g;split at h
        · rw [bH] at h;obtain ⟨⟨j,i,f⟩,a,h2⟩:=h;simp only [bR] at h2;have:=(b (n - 1) d _).2 _ _ _ a;rw [e,<-h2.2.1,aO,aO];omega
        · unfold ZN at h;split at h
          · rename_i item rest hc;rw [bH] at h;obtain ⟨q,a,h2⟩:=h;simp only [bR] at h2;have:=UH hc;rw [e,<-h2.2.1,aO];omega
          · cases h
  · rw [ES] at h;split at h
    · simp only [bn,bR] at h;rw [<-h.2.1,bI];omega
    · split at h
      · rename_i p q k hp;rw [bH] at h;obtain ⟨⟨j,i,f⟩,a,h2⟩:=h;simp only [bR] at h2;have h4:=(b n (d+1) s).1 _ _ _ hp;have h5:=(b k d q).2 _ _ _ a;rw [<-h2.2.1];omega
      · cases h
theorem readS_len {n d:Nat} {s:List UInt8} {x:Fi} {r:List UInt8} {m:Nat} (h:readS n d s=some (x,r,m)):r.length<=s.length:=(AaJ _ n d s).1 _ _ _ h
end FiS
open Go.RowKit
open FiS (Fi)
attribute [local go_sem ↓] Go.wp_at_zero Go.wp_at_succ
theorem BG.far {C b:Nat} {w w':World} (h:BG C b w w') {g:Nat} (c:C<=g) (hb:b<=g) (i:Nat) (u:Value):BG C b w (w'.setCell ⟨g,i,none⟩ u):=⟨h.1.setCell (p:=⟨g,i,none⟩) hb u,fun k hk a=>by
 rw [Below.heap_setCell _ _ _ _ (by show k≠g;omega)];exact h.2 k hk a⟩
theorem BG.grow {C b:Nat} {u v w:World} (h:BG C b u v) (h2:Below v.heap.size v w) (hb:b<=C) (hC:C<=v.heap.size):BG C b u w:=h.trans (BG.of_below (h2.mono hC) hb)
theorem BG.grown {C b:Nat} {w w':World} (h:BG C b w w') (hC:w.heap.size<=C):w.grownBy w' (some b):=⟨h.1.os,h.1.tape,h.1.output,h.1.size,fun k hk a=>h.2 k (by omega) (fun e=>a (by rw [e]))⟩
theorem BG.whole {C b:Nat} {w w':World} (h:BG C b w w') {g:Nat} {t:TypeId} {cs:Array Value} (c:Whole w g t cs) (d:g<C) (a:g≠b):Whole w' g t cs:=(h.2 g d a).trans c
theorem CC.kept {α:Type} {L:RLay α} {T:TypeId} {C j b:Nat} {w w':World} {v:Value} {xs:List α} (h:CC L T (fun g=>C<=g) w C v xs) (hk:BG j b w w') (hC:w.heap.size<=j) (hb:b<C):CC L T (fun g=>C<=g) w' C v xs:=by
 have d:v.ownBlock≠some b:=fun e=>by have:=(h.block e).1;omega
 obtain ⟨k,h1,h2,h3⟩:=h;exact ⟨k,World.ownsRow.kept h1 (hk.grown hC) (.inr d),h2,fun i u l a c=>L.keep (h3 i u l a c) hk.1.size (fun g m f=>hk.2 g (by omega) (by have:=f.1;omega)) (fun g _ h=>h)⟩
def fiG (n:Nat):RLay Fi:=⟨7,by decide,fun ok w cs x=>∃b up,cs=[.int .i64 x.kind,Ac x.attr,Ac x.value,Ac x.first,Ac x.last,b,up]/\Aj ok w b x.any/\BC n ok w up x.parts,
 fun h f hb hk=>by obtain ⟨b,up,e,h1,h2⟩:=h;exact ⟨b,up,e,Aj.keep h1 f hb hk,h2.keep f hb hk⟩,
 fun h=>by obtain ⟨b,up,rfl,_⟩:=h;rfl,
 fun h=>by
  obtain ⟨b,up,rfl,h1,h2⟩:=h;obtain ⟨a,c,rfl,_⟩:=Ad.form h1;obtain ⟨i,g,rfl,_⟩:=Ad.form h2;intro z d;simp only [ay,dU,fQ] at d;rcases d with rfl | rfl | rfl | rfl | rfl | rfl | rfl <;> rfl⟩
theorem CC.fis {n:Nat} {T:TypeId} {C:Nat} {w:World} {v:Value} {xs:List Fi} (h:CC (fiG n) T (fun g=>C<=g) w C v xs):BC (n+1) (fun g=>C<=g) w v xs:=by have h:=h.read (fun g=>C<=g) (fun g b=>b);refine Ad.imp h (aA _) (fun _ _ h=>h) fun g o x _ _ hx=>?_;obtain ⟨cs,hc,a,up,rfl,h1,h2⟩:=hx;exact ⟨a,up,⟨hc 0 _ rfl,hc 1 _ rfl,hc 2 _ rfl,hc 3 _ rfl,hc 4 _ rfl,hc 5 _ rfl,hc 6 _ rfl⟩,h1,h2⟩
theorem KN.oneFi {n:Nat} {rok ok:Nat->Prop} {w:World} {g:Nat} {T:TypeId} {x:Fi} {a up:Value} (h:Whole w g T #[.int .i64 x.kind,Ac x.attr,Ac x.value,Ac x.first,Ac x.last,a,up]) (d:rok g) (h1:Aj ok w a x.any) (h2:BC n ok w up x.parts):KN (fiG n) rok ok w (.slice (some ⟨g,0,none⟩) 1 1) [x]:=by
 refine ⟨_,_,rfl,aA _,.inr ⟨g,0,rfl,h.lt,d,fun j y b=>?_⟩⟩;have c:j=0:=by have:=(aj.1 b).1;simp at this;exact this
 subst c;simp only [aH,bn] at b;subst b;refine ⟨_,fun i u f=>?_,a,up,rfl,h1,h2⟩;have e:w.cell? ⟨g,0+0*(fiG n).k+i,none⟩=(#[Value.int .i64 x.kind,Ac x.attr,Ac x.value,Ac x.first,Ac x.last,a,up]:Array Value)[i]?:=by rw [cO,bi];exact h.cell i
 rw [e,aI];exact f
theorem AfE:((prog.info? 36).bind fun i=>if i.size=7/\i.bytes=120 then i.zero.map (fun z=>z.cells.size) else none)=some 7:=by kernel_rfl
theorem UI:∃i0 z,prog.info? 36=some i0/\i0.zero=some z/\i0.size=7/\i0.bytes=120/\z.cells.size=7:=by
 have h:=AfE;rw [Option.bind_eq_some_iff] at h;obtain ⟨i,h1,h2⟩:=h;split at h2
 · rename_i a;rw [bH] at h2;obtain ⟨z,h3,h4⟩:=h2;exact ⟨i,z,h1,h3,a.1,a.2,h4⟩
 · cases h2
end
end Go.Proofs.YtgngjfjaelgaeaaGreatDoor
