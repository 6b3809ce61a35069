/- The walk of the document's 'ParsePart'. Conditions: as stated. -/
import Derived.Test.YtgngjfjaelgaeaaGreatDoorJRdk
set_option maxRecDepth 100000
set_option maxHeartbeats 8000000
namespace Go.Proofs.YtgngjfjaelgaeaaGreatDoor
open Go.Proofs.Tryz
section
open Go.RowKit
namespace RdS
theorem Aau {p:List UInt8} {a:Pr} (h:CG p=some a):a.1.length<=17/\a.2.length<=p.length:=by
 unfold CG at h;split at h
 · split at h
   · cases h
   · obtain ⟨v,b,rfl⟩:=bH.1 h;refine ⟨?_,?_⟩
     · rcases RuS.typeM_all (RuS.lower (nameOf p)) with e | e
       · have:RuS.typeOf (nameOf p)=([],0):=e;rw [this];simp
       · exact e.2.2.2
     · have:=readS_len b;rw [bI] at this;show v.length<=_;omega
 · cases h
theorem YH (b:List Pr) (a:Pr):CE (b++[a])=EO a (CE b):=by unfold CE;rw [dE];rfl
theorem XI (a:Pr):∀(os:List Pr) (n:Nat),n<=os.length->(∀j (h:j<os.length),j<n->Op.bytesLess os[j].1 a.1=true)->(∀h:n<os.length,Op.bytesLess os[n].1 a.1=false)->EO a os=os.take n++[a]++os.drop n
 | [],n,hn,_,_=>by
  have:n=0:=by simpa using hn
  subst this;rfl
 | p :: os,0,_,_,h2=>by have:=h2 (by simp);unfold EO;rw [aG (by simpa using this)];rfl
 | p :: os,n+1,hn,h1,h2=>by have h0:Op.bytesLess p.1 a.1=true:=h1 0 (by simp) (by omega);have b:=XI a os n (by simpa using hn) (fun j h c=>h1 (j+1) (by simpa using h) (by omega)) (fun h=>h2 (by simpa using h));unfold EO;rw [aP h0,b];rfl
end RdS
theorem Ik {w:World} {ops:Array Oper} {rest:List Oper} {o:Oper} {a:Act} {Q:Exit->Act->World->Prop} (T g:TypeId) (q:prog.underlying g=some (.slice T)) {i0:TypeInfo} {z:Value}
  (y:prog.info? T=some i0) (r:i0.zero=some z) (d:i0.size=2) (n:i0.bytes=32) (i:z.cells.size=2) (l:o.guard=none) (s x:Operand)
  (t:o.op=.call { callee:=.builtin .append,args:=#[s,x],argTypes:=#[g,g] })
  (B:Nat) (v:Value) (xs:List RdS.Pr) (C:a.eval s=v) (b:Bg T w B v xs) (f:Addr) (m c:Nat) (hx:a.eval x=.slice (some f) m c)
  (ys:List RdS.Pr) (A:ys.length=m) (hc:∀(j:Nat) (u:Value),(CM ys)[j]?=some u->w.cell? (f.add j)=some u) (E:xs.length+m<=1000000000) (hB:B<=w.heap.size)
  (h:∀e w',Bg T w' B e (xs++ys)->Below B w w'->w.grownBy w' v.ownBlock->wpList prog ops Q rest (a.put o.dst e) w'):wpList prog ops Q (o :: rest) a w:=by
 subst A;refine wpList_append_own w l s x _ t B T i0 z 2 32 q y r d n i (by decide) v xs.length (CM xs) C b f ys.length c (CM ys) hx (by rw [KD])
  hc (fun u hu=>?_) (by unfold maxLen;omega) (by omega) hB (fun e w' h1 h2 _=>h e w' ?_ ?_ h2)
 · obtain ⟨p,_,hp⟩:=List.mem_flatMap.1 hu;simp only [ay,dU,fQ] at hp;rcases hp with rfl | rfl <;> rfl
 · unfold Bg;rw [JO,aT];exact h1
 · exact (Below.refl B w).grown h2 hB (fun k hk=>(World.ownsRow.lt b k hk).1)
theorem Bg.mono {T:TypeId} {w:World} {B a:Nat} {v:Value} {xs:List RdS.Pr} (h:Bg T w B v xs) (hB:a<=B):Bg T w a v xs:=by
 refine ⟨h.1,?_⟩;rcases h.2 with h | ⟨g,cap,cur,e,b,rest⟩
 · exact .inl h
 · exact .inr ⟨g,cap,cur,e,aY hB b,rest⟩
theorem Uk:(prog.info? 173).map (fun i=>(i.zero,i.size,i.bytes))=some (some (.agg #[.string ⟨#[]⟩,.string ⟨#[]⟩]),2,32):=by kernel_rfl
theorem Rk (os:List RdS.Pr) (j:Nat):CM os=CM (os.take j)++CM (os.drop j):=by rw [<-JO,dB]
theorem Pj {os:List RdS.Pr} {W:World} {g j:Nat} (h:∀j u,(CM os)[j]?=some u->W.cell? ⟨g,j,none⟩=some u) {i:Nat} {u:Value} (b:(CM (os.take j))[i]?=some u):W.cell? ((⟨g,0,none⟩:Addr).add i)=some u:=by
 have a:(⟨g,0,none⟩:Addr).add i=⟨g,i,none⟩:=by unfold Addr.add;split <;> simp_all
 rw [a];refine h i u ?_;rw [Rk os j,bF (aj.1 b).1];exact b
theorem Pm {os:List RdS.Pr} {W:World} {g j:Nat} (k:j<=os.length) (h:∀j u,(CM os)[j]?=some u->W.cell? ⟨g,j,none⟩=some u) {c:Addr} (e:j<os.length->c=⟨g,j*2,none⟩) {i:Nat} {u:Value} (d:(CM (os.drop j))[i]?=some u):W.cell? (c.add i)=some u:=by
 have b:=(aj.1 d).1;rw [KD,bI] at b;rw [e (by omega)];have a:(⟨g,j*2,none⟩:Addr).add i=⟨g,j*2+i,none⟩:=by unfold Addr.add;split <;> simp_all
 rw [a];refine h (j*2+i) u ?_;have f:(CM (os.take j)).length=j*2:=by rw [KD,au,cJ k]
 rw [Rk os j,bC (by omega),f,eG];exact d
theorem Ul {os:List RdS.Pr} {k j:Nat} (h:os.length=k):(os.drop j).length=k - j:=by rw [bI,h]
theorem drop_at {g j k:Nat} (_h:j<k):(⟨g,j*2,none⟩:Addr)=⟨g,j*2,none⟩:=rfl
def Um (ps:List (List UInt8)) (w0:World) (out i:Value) (wr:World):Prop:=
 ∃(k:Nat) (a:List RdS.Pr),k<=ps.length/\i=.int .i64 k/\Bg 173 wr w0.heap.size out (RdS.CE a)/\a.length=k/\RdS.CU (ps.take k)=some a/\(∀q ∈ a,q.1.length<=17/\q.2.length<=1000000)/\Below w0.heap.size w0 wr
theorem Aav (l:List UInt8) (hl:l.length<=100000) (w:World) (hE:Env w):Calls prog 116 #[.string ⟨l.toArray⟩] w (CP 173 l w):=by
 have B5:=Pg l 43 (by omega) (by decide) w;unfold Hn at B5;have H5:=RdS.IP (sep:=43) l;have C5:=RdS.EF (sep:=43) l;obtain ⟨ps,C4⟩:∃ps,RdS.Ak 43 l=ps:=⟨_,rfl⟩
 rw [C4] at B5 H5 C5;have C0:=hZ9 C4;have G0:=hZ9 C5;clear C4 C5;go_enter func116,ntmps116;go_wp2_with fail;refine B5.mono ?_;rintro e w0 ⟨v,rfl,hv,hb0⟩;obtain ⟨a,c,rfl,hc,B1⟩:=hv;generalize hn:ps.length=n at*;have HN:=hZ9 hn;have I3:=hE.below hb0;by_cases I0:3<n
 · have h3:(3:Int)<(n:Int):=by omega
   have B4:Hid (RdS.Bh l=([],2)):=hZ9 (by
    unfold RdS.Bh;rw [C0.out];cases G:RdS.CU ps with
    | none=>rfl
    | some Q=>
     simp only;rw [aG];unfold RdS.formedS;rw [RdS.Jg,RdS.Qj G,HN.out,aC (show ¬n<=3 by omega)];simp)
   clear hn;go_wp2_with fail;go_ret2;exact CP.none B4.out hb0
 have h3:decide ((3:Int)<(n:Int))=false:=aC (by omega);rcases B1 with rfl | ⟨g,o,rfl,hg,hcell⟩
 · obtain ⟨p0,H8,F2⟩:=RdS.CQ 43 l;rw [C0.out] at F2;cases F2
 have B3:=hZ9 hcell;clear hn hcell B5;go_wp2_with fail;go_loopw [4,18] (fun out i wr=>Um ps w0 out i wr) (fun _ i _=>n - (intOf i).toNat)
 case atStart=>exact ⟨0,[],aR _,rfl,Bg.empty _ _ _,rfl,rfl,by simp,Below.refl _ _⟩
 case round=>
  obtain ⟨k,Q,hk,rfl,C,F1,G,B8,hb⟩:=hrel;rw [HN.out] at hk;have hsz:=hb.size;have x:Below w.heap.size w wr:=hb0.trans (hb.mono hb0.size);by_cases G9:k<n
  · have F:k<ps.length:=by rw [HN.out];exact G9
    have H4:wr.cell? ⟨g,o+k,none⟩=some (Ac ps[k]):=(hb.cell (p:=⟨g,o+k,none⟩) hg).trans (B3.out k _ (aJ F));have H7:=G0.out ps[k] (aZ F);have B4:=hZ9 (Qo C0.out F);have A5:=hZ9 (fun (a:RdS.Pr)=>Oe F G (a:=a));have E8:=hZ9 B8;have A8:=hZ9 (fun (a:RdS.Pr)=>RdS.Aau (p:=ps[k]) (a:=a));generalize ps[k]=p at*;unfold Ac at H4;clear G F B8;have C2:=fun w=>AbA p (by omega) w;unfold Yh at C2;have A3:=hZ9 C;clear C;go_wp2_with fail;refine (C2 _).mono ?_;rintro e w1 ⟨t,v,b,rfl,B7,C9,B6⟩;cases b with
    | false=>have G8:=hZ9 (B4.out (C9 rfl));clear B7 C9;go_wp2_with fail;go_ret2;exact CP.none G8.out (((x.trans (B6.mono x.size)).alloc (aY x.size B6.size) _))
    | true=>
     have F7:=hZ9 (A5.out (t,v) (B7 rfl));have E5:=hZ9 (A8.out (t,v) (B7 rfl));clear B7 C9;have Y:=A3.out.call B6;have A2:Below w0.heap.size w0 w1:=hb.trans (B6.mono hsz);have B9:=Whole.made w1 173 #[.string ⟨t.toArray⟩,.string ⟨v.toArray⟩];have A6:Below w1.heap.size w1 (w1.alloc (.cells #[.string ⟨t.toArray⟩,.string ⟨v.toArray⟩] 173)):=Af w1 _;go_wp2_with fail;generalize H1:(w1.alloc (.cells #[.string ⟨t.toArray⟩,.string ⟨v.toArray⟩] 173))=w2 at*;clear H1;have M:=Bg.call Y A6;have N:Below w0.heap.size w0 w2:=A2.trans (A6.mono A2.size);have hlen:(RdS.CE Q).length=k:=by rw [RdS.Jg,F1]
     have Z:w2.cell? ⟨w1.heap.size,0,none⟩=some (.string ⟨t.toArray⟩):=B9.cell 0;have A1:w2.cell? ⟨w1.heap.size,1,none⟩=some (.string ⟨v.toArray⟩):=B9.cell 1;have F6:w1.heap.size<w2.heap.size:=B9.lt;have A0:=N.size;have A9:=hZ9 (fun n h0 h1 h2=>RdS.XI (t,v) (RdS.CE Q) n h0 h1 h2);have F5:=hZ9 (RdS.YH Q (t,v));have T:Hid (∀(B:Nat) (v' i:Value) (w':World),Bg 173 w' B v' (RdS.EO (t,v) (RdS.CE Q))->w0.heap.size<=B->i=.int .i64 ((k+1:Nat):Int)->Below w0.heap.size w0 w'->Um ps w0 v' i w'):=hZ9 (fun B v' i w' h1 h2 O h3=>by
      refine ⟨k+1,Q++[(t,v)],by rw [HN.out];omega,O,?_,by simp [F1],F7.out,?_,h3⟩
      · rw [F5.out];exact Bg.mono h1 h2
      · intro q G;rcases b9.1 G with G | G
        · exact E8.out q G
        · have:=ak.1 G;subst this;have h:=E5.out;exact ⟨h.1,aY h.2 (by omega)⟩)
     clear Y B9 F7 A5 B4 A8 E5 F5 E8 A3 C2;generalize RdS.CE Q=os at*;obtain ⟨i0,O,J,K,I⟩:=info_parts Uk;have HI:=hZ9 O;clear O;have E:=M;rcases E.2 with ⟨rfl,E6⟩ | ⟨g2,cap,cur,rfl,I1,E7,D4,_⟩
     · have F8:os=[]:=aW E6;subst F8;have G7:=hZ9 (A9.out 0 (aA _) (fun j h _=>by simp at h) (fun h=>by simp at h));clear M E E6;refine wp_loop_rounds 1 ?_;rw [rounds_succ];go_wp2_with fail
       go_quiet (fail)
       generalize F0:w2.drewN nq=w3 at*;have d:Below w2.heap.size w2 w3:=by rw [<-F0];exact below_drewN w2 nq
       have E0:w3.cell? ⟨w1.heap.size,0,none⟩=some (.string ⟨t.toArray⟩):=Ab Z d;have E2:w3.cell? ⟨w1.heap.size,1,none⟩=some (.string ⟨v.toArray⟩):=Ab A1 d;have s:Below w0.heap.size w0 w3:=N.trans (d.mono A0);have r:=s.size;clear F0 Z A1 d;go_wp2_with (at_builtin;first | refine wpList_append_own_none (by rfl) _ _ 124 (by rfl) w3.heap.size 173 i0 2 underlying124 HI.out _ 0 [] (by rfl) (World.ownsRow_nil _ _ _ 2) (by rfl) ?_ | refine IW 173 124 underlying124 HI.out J K I (by rfl) (by rfl) _ _ (by rfl) w3.heap.size _ [] (by rfl) (Bg.empty _ _ _) w3.heap.size (by rfl) (t,v) ?e1 ?e2 ?e3 ?e4 ?_)
       case e1=>simp [go_sem,Ac]
       case e2=>simp [go_sem,Ac]
       case e3=>simp
       case e4=>simp
       intro v' w4 f A;go_wp2_with (at_builtin;refine wpList_append_own_none (by rfl) _ _ 124 (by rfl) w3.heap.size 173 i0 2 underlying124 HI.out _ 1 _ (by rfl) f (by rfl) ?_)
       go_wp2_with fail;go_roundw
       case rel=>exact T.out w3.heap.size _ _ _ (by rw [G7.out];exact f) r (by go_num) ((s.alloc r _).trans (A.mono r))
       case measure=>simp [intOf];omega
     · have E9:g2<w2.heap.size:=(ah.1 E7).1;have P:∀j u,(CM os)[j]?=some u->w2.cell? ⟨g2,j,none⟩=some u:=fun j u hj=>by
        have:=World.ownsRow.cells E (g:=g2) rfl j u hj;have D9:(⟨g2,0,none⟩:Addr).add j=⟨g2,j,none⟩:=by unfold Addr.add;split <;> simp_all
        rwa [D9] at this
       have HC:=hZ9 P;rw [hlen] at D4;clear M E E7 P;simp only [hlen]
       go_loopg [9] k (fun g1 vn H2=>∃(j q:Nat),vn=.int .i64 j/\j<=k/\k - j<=g1/\Hid (∀i (h:i<os.length),i<j->Op.bytesLess os[i].1 t=true)/\H2=w2.drewN q)
       case atStart=>exact ⟨0,0,rfl,aR _,by omega,hZ9 (fun i h O=>by omega),rfl⟩
       case round=>
        obtain ⟨j,q,rfl,F9,H9,HL,rfl⟩:=hrel;have E4:Below w2.heap.size w2 (w2.drewN q):=below_drewN w2 q;have I2:Hid (∀j u,(CM os)[j]?=some u->(w2.drewN q).cell? ⟨g2,j,none⟩=some u):=hZ9 (fun j u hj=>HC.out j u hj);have E0:(w2.drewN q).cell? ⟨w1.heap.size,0,none⟩=some (.string ⟨t.toArray⟩):=Z;have E2:(w2.drewN q).cell? ⟨w1.heap.size,1,none⟩=some (.string ⟨v.toArray⟩):=A1;have W:Hid ((∀h:j<os.length,Op.bytesLess os[j].1 t=false)->RdS.EO (t,v) os=os.take j++[(t,v)]++os.drop j):=hZ9 (fun h=>A9.out j (by rw [hlen];exact F9) HL.out h);by_cases E3:j<k
        · have G3:j<os.length:=by rw [hlen];exact E3
          have D1:=HC.out (j*2) (Ac os[j].1) (IR os j os[j] (aJ G3)).1;have H0:(j:Int)<(k:Int):=by omega
          unfold Ac at D1;cases B0:Op.bytesLess os[j].1 t with
          | true=>
           have D5:=hZ9 B0;generalize F4:os[j].1=pj at*;have G5:=hZ9 F4;clear F4;go_wp2_with fail
           go_quiet (fail)
           go_wp2_with fail
           go_roundg (k - (j+1))
           case measure=>omega
           case rel=>exact ⟨j+1,q+nq,by go_num,by omega,aA _,hZ9 (fun i h O=>by
            rcases dw i j with h1 | h1
            · exact HL.out i h h1
            · have:i=j:=by omega
              subst this;rw [G5.out];exact D5.out),rfl⟩
          | false=>
           have C3:Hid (∀h:j<os.length,Op.bytesLess os[j].1 t=false):=hZ9 (fun _=>B0);generalize os[j].1=pj at*;go_wp2_with fail
           go_quiet (fail)
           have d:Below w2.heap.size w2 ((w2.drewN q).drewN nq):=Aa E4 (below_drewN _ nq);have X:Hid (∀j u,(CM os)[j]?=some u->((w2.drewN q).drewN nq).cell? ⟨g2,j,none⟩=some u):=hZ9 (fun j u hj=>HC.out j u hj);have D0:((w2.drewN q).drewN nq).cell? ⟨w1.heap.size,0,none⟩=some (.string ⟨t.toArray⟩):=Z;have hx1:((w2.drewN q).drewN nq).cell? ⟨w1.heap.size,1,none⟩=some (.string ⟨v.toArray⟩):=A1;generalize (w2.drewN q).drewN nq=w3 at*;have G4:w1.heap.size<w3.heap.size:=ae F6 d.size;have C7:g2<w3.heap.size:=ae E9 d.size;have s:Below w0.heap.size w0 w3:=N.trans (d.mono A0);have r:=s.size;have H:=hZ9 (W.out C3.out);go_wp2_with (at_builtin;refine Ik 173 124 underlying124 HI.out J K I (by rfl) (by rfl) _ _ (by rfl) w3.heap.size _ [] (by rfl) (Bg.empty _ _ _) ⟨g2,0,none⟩ j _ (by rfl) (os.take j) (by rw [au];omega) (fun i u O=>Pj X.out O) (by simp;omega) (aA _) ?_)
           intro v4 w4 f A D8;obtain ⟨a4,c4,rfl⟩:=f.form;have H6:w4.cell? ⟨w1.heap.size,0,none⟩=some (.string ⟨t.toArray⟩):=Ab D0 A;have H3:w4.cell? ⟨w1.heap.size,1,none⟩=some (.string ⟨v.toArray⟩):=Ab hx1 A;have U:=A.size;go_wp2_with (at_builtin;refine IW 173 124 underlying124 HI.out J K I (by rfl) (by rfl) _ _ (by rfl) w3.heap.size _ (os.take j) (by rfl) (f.alloc _) w4.heap.size (by rfl) (t,v) (by simp [go_sem,Ac]) (by simp [go_sem,Ac]) (by rw [au];omega) (by simp;omega) ?_)
           intro v5 w5 z D3;obtain ⟨a5,c5,rfl⟩:=z.form;have y:Below w3.heap.size w3 w5:=(A.alloc U _).trans D3;have D6:=y.size;have C1:Hid (∀j u,(CM os)[j]?=some u->w5.cell? ⟨g2,j,none⟩=some u):=hZ9 (fun j u hj=>(y.cell (p:=⟨g2,j,none⟩) C7).trans (X.out j u hj));have V:j<=os.length:=by omega
           have B2:(os.take j).length+1<=1000:=by rw [au];omega
           go_wp2_with (at_builtin;refine Ik 173 124 underlying124 HI.out J K I (by rfl) (by rfl) _ _ (by rfl) w3.heap.size _ (os.take j++[(t,v)]) (by rfl) z _ _ _ (by rfl) (os.drop j) (Ul hlen) (fun i u O=>Pm V C1.out (fun h=>drop_at (hlen ▸ h)) O) ?d3 ?d4 ?_)
           case d3=>rw [aT,bG];omega
           case d4=>omega
           intro v6 w6 L D2 E1;go_wp2_with fail;go_roundw
           case rel=>exact T.out w3.heap.size _ _ _ (by rw [H.out,bK];exact L) r (by go_num) (s.trans ((y.trans D2).mono r))
           case measure=>simp [intOf];omega
        · have H0:¬(j:Int)<(k:Int):=by omega
          have C3:Hid (∀h:j<os.length,Op.bytesLess os[j].1 t=false):=hZ9 (fun h=>by rw [hlen] at h;omega);rcases dw j cap with D1 | D1
          all_goals
           go_wp2_with fail
           go_quiet (fail)
           have d:Below w2.heap.size w2 ((w2.drewN q).drewN nq):=Aa E4 (below_drewN _ nq);have X:Hid (∀j u,(CM os)[j]?=some u->((w2.drewN q).drewN nq).cell? ⟨g2,j,none⟩=some u):=hZ9 (fun j u hj=>HC.out j u hj);have D0:((w2.drewN q).drewN nq).cell? ⟨w1.heap.size,0,none⟩=some (.string ⟨t.toArray⟩):=Z;have hx1:((w2.drewN q).drewN nq).cell? ⟨w1.heap.size,1,none⟩=some (.string ⟨v.toArray⟩):=A1;generalize (w2.drewN q).drewN nq=w3 at*;have G4:w1.heap.size<w3.heap.size:=ae F6 d.size;have C7:g2<w3.heap.size:=ae E9 d.size;have s:Below w0.heap.size w0 w3:=N.trans (d.mono A0);have r:=s.size;have H:=hZ9 (W.out C3.out);go_wp2_with (at_builtin;refine Ik 173 124 underlying124 HI.out J K I (by rfl) (by rfl) _ _ (by rfl) w3.heap.size _ [] (by rfl) (Bg.empty _ _ _) ⟨g2,0,none⟩ j _ (by rfl) (os.take j) (by rw [au];omega) (fun i u O=>Pj X.out O) (by simp;omega) (aA _) ?_)
           intro v4 w4 f A D8;obtain ⟨a4,c4,rfl⟩:=f.form;have H6:w4.cell? ⟨w1.heap.size,0,none⟩=some (.string ⟨t.toArray⟩):=Ab D0 A;have H3:w4.cell? ⟨w1.heap.size,1,none⟩=some (.string ⟨v.toArray⟩):=Ab hx1 A;have U:=A.size;go_wp2_with (at_builtin;refine IW 173 124 underlying124 HI.out J K I (by rfl) (by rfl) _ _ (by rfl) w3.heap.size _ (os.take j) (by rfl) (f.alloc _) w4.heap.size (by rfl) (t,v) (by simp [go_sem,Ac]) (by simp [go_sem,Ac]) (by rw [au];omega) (by simp;omega) ?_)
           intro v5 w5 z D3;obtain ⟨a5,c5,rfl⟩:=z.form;have y:Below w3.heap.size w3 w5:=(A.alloc U _).trans D3;have D6:=y.size;have C1:Hid (∀j u,(CM os)[j]?=some u->w5.cell? ⟨g2,j,none⟩=some u):=hZ9 (fun j u hj=>(y.cell (p:=⟨g2,j,none⟩) C7).trans (X.out j u hj));have V:j<=os.length:=by omega
           have D7:¬j<os.length:=by omega
           have B2:(os.take j).length+1<=1000:=by rw [au];omega
           go_wp2_with (at_builtin;refine Ik 173 124 underlying124 HI.out J K I (by rfl) (by rfl) _ _ (by rfl) w3.heap.size _ (os.take j++[(t,v)]) (by rfl) z _ _ _ (by rfl) (os.drop j) (Ul hlen) (fun i u O=>Pm V C1.out (fun h=>absurd h D7) O) ?d3 ?d4 ?_)
           case d3=>rw [aT,bG];omega
           case d4=>omega
           intro v6 w6 L D2 E1;go_wp2_with fail;go_roundw
           case rel=>exact T.out w3.heap.size _ _ _ (by rw [H.out,bK];exact L) r (by go_num) (s.trans ((y.trans D2).mono r))
           case measure=>simp [intOf];omega
  · have G2:k=n:=by omega
    subst G2;have A4:ps.take k=ps:=ag (by rw [HN.out];omega);rw [A4] at G;have F3:Hid (RdS.Bh l=if RdS.formedS (RdS.CE Q) then (RdS.CE Q,0) else ([],2)):=hZ9 (by unfold RdS.Bh;rw [C0.out,G]);have C8:=C.avas;have A7:EP (RdS.CE Q):=fun q G=>by have:=B8 q ((RdS.KY Q).mem_iff.1 G);omega
    have S:=IC _ _ wr C8 A7 (hE.below x);unfold JB at S;obtain ⟨a,cp,rfl⟩:=C.form;have G6:=hZ9 (fun m=>Tag.own C m);have G1:=hZ9 C8;clear A4 G C B8 A7 C8;cases R:RdS.formedS (RdS.CE Q) with
    | true=>
     have C6:=hZ9 R;rw [R] at S;clear R;go_wp2_with fail;refine S.mono ?_;rintro e w2 ⟨rfl,d⟩;go_wp2_with fail;go_ret2;have e1:RdS.Bh l=(RdS.CE Q,0):=by rw [F3.out,aP C6.out]
     exact ⟨_,by rw [e1];rfl,by rw [e1];exact G1.out.call d (aA _),x.trans (d.mono x.size),(G6.out _).call d⟩
    | false=>have C6:=hZ9 R;rw [R] at S;clear R;go_wp2_with fail;refine S.mono ?_;rintro e w2 ⟨rfl,d⟩;go_wp2_with fail;go_ret2;exact CP.none (by rw [F3.out,aG (by rw [C6.out];decide)]) (x.trans (d.mono x.size))
end
section
open Go.RowKit
def EU (w:World) (v:Value) (ls:List (List RdS.Pr)):Prop:=
 ∃(a:Option Addr) (c:Nat) (b:List Value),v=.slice a ls.length c/\ls.length<=c/\b.length=ls.length/\(∀(i:Nat) (u:Value) (l:List RdS.Pr),b[i]?=some u->ls[i]?=some l->AX w u l)/\
  (ls=[]\/∃g o,a=some ⟨g,o,none⟩/\g<w.heap.size/\∀(i:Nat) (u:Value),b[i]?=some u->w.cell? ⟨g,o+i,none⟩=some u)
theorem EU.call {w w':World} {v:Value} {ls:List (List RdS.Pr)} (h:EU w v ls) {B:Nat} (hb:Below B w w') (hB:w.heap.size<=B):EU w' v ls:=by
 obtain ⟨a,c,e,rfl,hc,hu,b,h⟩:=h;refine ⟨a,c,e,rfl,hc,hu,fun i u l h1 h2=>(b i u l h1 h2).call hb hB,?_⟩;rcases h with h | ⟨g,o,rfl,d,h⟩
 · exact .inl h
 · exact .inr ⟨g,o,rfl,ae d hb.size,fun i u f=>(hb.cell (p:=⟨g,o+i,none⟩) (ae d hB)).trans (h i u f)⟩
theorem EU.empty (w:World):EU w (.slice none 0 0) []:=⟨none,0,[],rfl,aA _,rfl,fun i u l h=>(by simp at h),.inl rfl⟩
theorem EU.at {w:World} {v:Value} {ls:List (List RdS.Pr)} (h:EU w v ls):∃a c,v=.slice a ls.length c/\ls.length<=c/\(ls=[]\/∃g o,a=some ⟨g,o,none⟩/\g<w.heap.size/\∀(i:Nat) (l:List RdS.Pr),ls[i]?=some l->∃u,w.cell? ⟨g,o+i,none⟩=some u/\AX w u l):=by
 obtain ⟨a,c,f,rfl,hc,hu,d,h⟩:=h;refine ⟨a,c,rfl,hc,?_⟩;rcases h with h | ⟨g,o,rfl,j,h⟩
 · exact .inl h
 · refine .inr ⟨g,o,rfl,j,fun i l e=>?_⟩;have b:i<f.length:=by rw [hu];exact (aj.1 e).1
   exact ⟨f[i],h i _ (aJ b),d i _ l (aJ b) e⟩
def DY (T T2:TypeId) (w:World) (B:Nat) (v:Value) (ls:List (List RdS.Pr)):Prop:=
 ∃a:List Value,w.ownsRow B T 1 v ls.length a/\a.length=ls.length/\∀(i:Nat) (u:Value) (l:List RdS.Pr),a[i]?=some u->ls[i]?=some l->AX w u l/\Tag T2 w u
theorem DY.empty (T T2:TypeId) (w:World) (B:Nat):DY T T2 w B (.slice none 0 0) []:=⟨[],World.ownsRow_nil w B _ 1,rfl,fun i u l h=>(by simp at h)⟩
theorem DY.form {T T2:TypeId} {w:World} {B:Nat} {v:Value} {ls:List (List RdS.Pr)} (h:DY T T2 w B v ls):∃a c,v=.slice a ls.length c:=by
 obtain ⟨d,h,_⟩:=h;rcases h.2 with ⟨rfl,b⟩ | ⟨g,cap,cur,rfl,_⟩
 · exact ⟨_,_,by rw [b]⟩
 · exact ⟨_,_,rfl⟩
theorem DY.call {T T2:TypeId} {w w':World} {B:Nat} {v:Value} {ls:List (List RdS.Pr)} (h:DY T T2 w B v ls) (hb:Below w.heap.size w w'):DY T T2 w' B v ls:=by obtain ⟨c,h1,h2,h3⟩:=h;exact ⟨c,World.ownsRow.kept h1 (Ba hb) (by cases v.ownBlock <;> simp),h2,fun i u l a b=>⟨(h3 i u l a b).1.call hb (aA _),(h3 i u l a b).2.call hb⟩⟩
theorem DY.avss {T T2:TypeId} {w:World} {B:Nat} {v:Value} {ls:List (List RdS.Pr)} (h:DY T T2 w B v ls):EU w v ls:=by
 obtain ⟨e,h1,h2,h3⟩:=h;rcases h1.2 with ⟨rfl,d⟩ | ⟨g,cap,cur,rfl,n,k,d,m,hsz,f⟩
 · refine ⟨none,0,e,by rw [d],by omega,h2,fun i u l a b=>(h3 i u l a b).1,.inl (aW d)⟩
 · refine ⟨some ⟨g,0,none⟩,cap,e,rfl,d,h2,fun i u l a b=>(h3 i u l a b).1,.inr ⟨g,0,rfl,(ah.1 k).1,fun i u j=>?_⟩⟩;have:=World.ownsRow.cells h1 (g:=g) rfl i u j;have c:(⟨g,0,none⟩:Addr).add i=⟨g,0+i,none⟩:=by unfold Addr.add;split <;> simp_all
   rwa [c] at this
theorem AX.setHdr {w:World} {v:Value} {xs:List RdS.Pr} (h:AX w v xs) {b:Nat} {T:TypeId} {a0:Option Addr} {n0 c0:Nat} (i:Whole w b T #[.slice a0 n0 c0]) (u:Value):AX (w.setCell ⟨b,0,none⟩ u) v xs:=by
 obtain ⟨a,c,rfl,hc,h⟩:=h;refine ⟨a,c,rfl,hc,?_⟩;rcases h with h | ⟨g,o,rfl,k,h⟩
 · exact .inl h
 · cases xs with
   | nil=>exact .inl rfl
   | cons p xs=>
    have d:g≠b:=by
     intro e;subst e;have h1:=(h 0 p rfl).1;rw [i.cell] at h1;cases o with
     | zero=>simp [Ac] at h1
     | succ o=>simp at h1
    refine .inr ⟨g,o,rfl,by simpa [World.setCell] using k,fun j q f=>?_⟩;have hblk:=Below.heap_setCell w ⟨b,0,none⟩ u g d;exact ⟨(World.cell?_of_block (a:=⟨g,o+j*2,none⟩) hblk).trans (h j q f).1,(World.cell?_of_block (a:=⟨g,o+j*2+1,none⟩) hblk).trans (h j q f).2⟩
theorem Tag.setCell {T:TypeId} {w:World} {v:Value} (h:Tag T w v) (a:Addr) (u:Value):Tag T (w.setCell a u) v:=fun g b=>by
 obtain ⟨cs,fz,e⟩:=h g b;by_cases hb:g=a.block
 · subst hb;show ∃cs fz,(w.heap.modify a.block _)[a.block]?=_
   rw [dK,aP rfl,e];exact ⟨_,_,rfl⟩
 · exact ⟨cs,fz,(Below.heap_setCell w a u g hb).trans e⟩
theorem DY.setHdr {Ts T2:TypeId} {w:World} {B:Nat} {v:Value} {ls:List (List RdS.Pr)} (h:DY Ts T2 w B v ls) {b:Nat} {T:TypeId} {a0:Option Addr} {n0 c0:Nat} (e:Whole w b T #[.slice a0 n0 c0]) (hb:b<B) (u:Value):DY Ts T2 (w.setCell ⟨b,0,none⟩ u) B v ls:=by obtain ⟨d,h1,h2,h3⟩:=h;exact ⟨d,ownsRow_setCell_below h1 (a:=⟨b,0,none⟩) hb u,h2,fun i x l a c=>⟨(h3 i x l a c).1.setHdr e u,(h3 i x l a c).2.setCell _ u⟩⟩
theorem AX.grownTag {w w':World} {u:Value} {l:List RdS.Pr} (h:AX w u l) {T2:TypeId} (i:Tag T2 w u) {row:Option Nat} (m:w.grownBy w' row) {T:TypeId} (p:∀k,row=some k->∃cs fz,w.heap[k]?=some (.cells cs T fz)) (b:T≠T2):AX w' u l/\Tag T2 w' u:=by
 have hblk:∀g,u.ownBlock=some g->w'.heap[g]?=w.heap[g]?:=fun g hu=>by obtain ⟨cs,fz,e⟩:=i g hu;refine m.block g (ah.1 e).1 (fun hc=>?_);obtain ⟨s,r,n⟩:=p g hc.symm;rw [e] at n;cases n;exact b rfl
 refine ⟨?_,fun g hu=>by
  obtain ⟨cs,fz,e⟩:=i g hu;exact ⟨cs,fz,(hblk g hu).trans e⟩⟩
 obtain ⟨a,c,rfl,hc,h⟩:=h;refine ⟨a,c,rfl,hc,?_⟩;rcases h with h | ⟨g,o,rfl,d,h⟩
 · exact .inl h
 · have e:=hblk g rfl;exact .inr ⟨g,o,rfl,ae d m.size,fun j q f=>⟨(World.cell?_of_block (a:=⟨g,o+j*2,none⟩) e).trans (h j q f).1,(World.cell?_of_block (a:=⟨g,o+j*2+1,none⟩) e).trans (h j q f).2⟩⟩
theorem Un {w:World} {ops:Array Oper} {rest:List Oper} {o:Oper} {a:Act} {Q:Exit->Act->World->Prop} (T T2 C:TypeId) (r:T≠T2) (G:prog.underlying C=some (.slice T)) {i0:TypeInfo}
  (S:prog.info? T=some i0) (N:i0.zero=some (.slice none 0 0)) (n:i0.size=1) (J:i0.bytes=24) (z:o.guard=none) (s x:Operand)
  (P:o.op=.call { callee:=.builtin .append,args:=#[s,x],argTypes:=#[C,C] })
  (B:Nat) (v:Value) (ls:List (List RdS.Pr)) (R:a.eval s=v) (b:DY T T2 w B v ls) (g:Nat) (hx:a.eval x=.slice (some ⟨g,0,none⟩) 1 1)
  (u0:Value) (A:u0.oneCell'=true) (l:List RdS.Pr) (M:w.cell? ⟨g,0,none⟩=some u0) (H:AX w u0 l) (I:Tag T2 w u0) (V:ls.length<=1000000000) (hB:B<=w.heap.size)
  (h:∀t w',DY T T2 w' B t (ls++[l])->Below B w w'->w.grownBy w' v.ownBlock->wpList prog ops Q rest (a.put o.dst t) w'):wpList prog ops Q (o :: rest) a w:=by
 obtain ⟨y,b,q,p⟩:=b;have f:∀k,v.ownBlock=some k->∃cs fz,w.heap[k]?=some (.cells cs T fz):=fun k hk=>by
  rcases b.2 with ⟨e,_⟩ | ⟨U,cap,cur,e,_,O,_⟩
  · rw [e] at hk;cases hk
  · rw [e] at hk;cases hk;exact ⟨_,_,O⟩
 refine wpList_append_own w z s x _ P B T i0 (.slice none 0 0) 1 24 G S N n J rfl (by decide) v ls.length y R b ⟨g,0,none⟩ 1 1 [u0] hx rfl
  (fun j u E=>?_) (fun u hu=>?_) (by unfold maxLen;omega) (by omega) hB (fun t w' h1 h2 _=>h t w' ?_ ?_ h2)
 · have F:j=0:=by
    rcases bT j with h | h
    · exact h
    · rw [dC (by simp;omega)] at E;cases E
   subst F;have m:(⟨g,0,none⟩:Addr).add 0=⟨g,0,none⟩:=by unfold Addr.add;split <;> simp_all
   rw [m,M]
   simpa using E
 · rw [ak] at hu;subst hu;exact A
 · refine ⟨y++[u0],by rw [aT];exact h1,by simp [q],fun i u l2 c d=>?_⟩;by_cases L:i<y.length
   · rw [bF L] at c;rw [bF (by omega)] at d;exact (p i u l2 c d).1.grownTag (p i u l2 c d).2 h2 f r
   · have K:i=y.length:=by
      have:=(aj.1 c).1;simp at this;omega
     subst K;rw [bC (aA _)] at c;rw [q,bC (aA _)] at d;simp at c d;subst c;subst d;exact H.grownTag I h2 f r
 · exact (Below.refl B w).grown h2 hB (fun k hk=>(World.ownsRow.lt b k hk).1)
end
end Go.Proofs.YtgngjfjaelgaeaaGreatDoor
