/- The walk of the program's 'Compare' of values. Conditions: as stated. -/
import Derived.Test.YtjmfknfponjgkaaGreatDoorJRuj
set_option maxRecDepth 100000
set_option maxHeartbeats 1000000
namespace Go.Proofs.YtjmfknfponjgkaaGreatDoor
section
open Go.RowKit
def cmpN (sy : Int) (x y : List UInt8) : Int := if sy = 3 then cmpI ((RuS.intS x).getD 0) ((RuS.intS y).getD 0)
 else if sy = 4 then (match PhS.parseP x, PhS.parseP y with
  | some (a, b), some (c, d) => cmpP a b c d
  | _, _ => 0)
 else Lib.compareBytes x y
def cmpB (nm a b : List UInt8) : Int := if errB nm a b = 0 then cmpN (RuS.typeOf nm).2 (RuS.normal nm a).1 (RuS.normal nm b).1 else 0
def CmpRet (nm a b : List UInt8) (w : World) (e : Ending) (w' : World) : Prop := e = .returned (.tuple #[.int .i64 (cmpB nm a b), .int .i64 (errB nm a b)]) /\ Below w.heap.size w w'
theorem CmpRet.mk' {nm a b : List UInt8} {w w' : World} {q n : Int} (h : errB nm a b = n) (hq : cmpB nm a b = q) (hb : Below w.heap.size w w') : CmpRet nm a b w (.returned (.tuple #[.int .i64 q, .int .i64 n])) w' := by
 unfold CmpRet; rw [h, hq]; exact ⟨rfl, hb⟩
theorem parse_of_int {x : List UInt8} {n : Int} (h : RuS.intS x = some n) (hx : x.length <= 1000000) (w : World) :
  Calls Tryz.prog 106 #[.string ⟨x.toArray⟩, .int .i64 10, .int .i64 64] w fun e w' => e = .returned (.tuple #[.int .i64 n, .nilIface]) /\ Below w.heap.size w w' := by
 obtain ⟨h1, h2⟩ := RuS.intS_iff.1 h
 refine parseInt64_ok ⟨x.toArray⟩ (by show x.length <= _; omega) n ?_ w
 show Lib.parseIntB 64 x = .ok n
 rw [<- h1]
 exact RuS.parse64_itoa n h2
theorem rulecompare_c (nm a b : ByteArray) (hn : nm.size <= 9223372036854775807) (ha : a.size <= 9223372036854775807) (hb : b.size <= 9223372036854775807) (w : World) (hE : Env w) :
  Calls Tryz.prog 81 #[.string nm, .string a, .string b] w (CmpRet nm.data.toList a.data.toList b.data.toList w) := by
 have h1 := both_c nm a b hn ha hb w hE
 have hty := fun w => type_c nm hn w
 unfold TypeRet at hty
 unfold BothRet at h1
 have HS : Hid (cmpB nm.data.toList a.data.toList b.data.toList = if errB nm.data.toList a.data.toList b.data.toList = 0 then cmpN (RuS.typeOf nm.data.toList).2 (RuS.normal nm.data.toList a.data.toList).1 (RuS.normal nm.data.toList b.data.toList).1 else 0) := hZ9 rfl
 generalize her : errB nm.data.toList a.data.toList b.data.toList = er at *
 have HER := hZ9 her
 clear her
 by_cases z1 : er = 0
 · subst z1
   go_enter Tryz.func81, Tryz.ntmps81
   go_wp2_with fail
   refine h1.mono ?_; rintro e w1 ⟨x, y, rfl, hxy, hb1⟩
   obtain ⟨hx, hy⟩ := hxy (by trivial)
   clear hxy
   obtain ⟨fx, fy⟩ := both_facts HER.out hx hy
   have hsy := (RuS.normal_ok fx).1
   have lx : x.length <= 200 := by rw [hx]; exact RuS.normal_len _ _
   have ly : y.length <= 200 := by rw [hy]; exact RuS.normal_len _ _
   have hpx := normal_plane fx
   have hpy := normal_plane fy
   have hix := normal_int fx
   have hiy := normal_int fy
   rw [<- hx, <- hy] at HS
   clear hx hy fx fy
   generalize RuS.typeOf nm.data.toList = r at *
   obtain ⟨t, sy⟩ := r
   simp only at hty hsy hpx hpy hix hiy HS
   have hE1 := hE.below hb1
   rcases hsy with rfl | rfl | rfl | rfl
   · clear hpx hpy hix hiy
     have sc := fun w => Tryz.strings_Compare ⟨x.toArray⟩ ⟨y.toArray⟩ w
     have dx : (⟨x.toArray⟩ : ByteArray).data.toList = x := rfl
     have dy : (⟨y.toArray⟩ : ByteArray).data.toList = y := rfl
     rw [dx, dy] at sc
     clear dx dy
     have HF : Hid (cmpN 1 x y = Lib.compareBytes x y) := hZ9 rfl
     generalize Lib.compareBytes x y = cb at *
     go_wp2_with fail
     refine (hty _).mono ?_; rintro e w2 ⟨rfl, hb2⟩
     go_wp2_with fail
     refine (sc _).mono ?_; rintro e w3 ⟨rfl, rfl⟩
     go_wp2_with fail
     go_ret2
     exact CmpRet.mk' HER.out (by rw [HS.out, if_pos (by trivial), HF.out]) (below_trans hb1 hb2)
   · clear hpx hpy hix hiy
     have sc := fun w => Tryz.strings_Compare ⟨x.toArray⟩ ⟨y.toArray⟩ w
     have dx : (⟨x.toArray⟩ : ByteArray).data.toList = x := rfl
     have dy : (⟨y.toArray⟩ : ByteArray).data.toList = y := rfl
     rw [dx, dy] at sc
     clear dx dy
     have HF : Hid (cmpN 2 x y = Lib.compareBytes x y) := hZ9 rfl
     generalize Lib.compareBytes x y = cb at *
     go_wp2_with fail
     refine (hty _).mono ?_; rintro e w2 ⟨rfl, hb2⟩
     go_wp2_with fail
     refine (sc _).mono ?_; rintro e w3 ⟨rfl, rfl⟩
     go_wp2_with fail
     go_ret2
     exact CmpRet.mk' HER.out (by rw [HS.out, if_pos (by trivial), HF.out]) (below_trans hb1 hb2)
   · obtain ⟨m, hm⟩ := hix rfl
     obtain ⟨n, hn2⟩ := hiy rfl
     clear hpx hpy hix hiy
     have i1 := parse_of_int hm (by omega)
     have i2 := parse_of_int hn2 (by omega)
     have k0 := cmpInt_c m n
     have HF : Hid (cmpN 3 x y = cmpI m n) := hZ9 (by
      show cmpI ((RuS.intS x).getD 0) ((RuS.intS y).getD 0) = _
      rw [hm, hn2]; rfl)
     clear hm hn2
     generalize cmpI m n = q at *
     go_wp2_with fail
     refine (hty _).mono ?_; rintro e w2 ⟨rfl, hb2⟩
     go_wp2_with fail
     refine (i1 _).mono ?_; rintro e w3 ⟨rfl, hb3⟩
     go_wp2_with fail
     refine (i2 _).mono ?_; rintro e w4 ⟨rfl, hb4⟩
     go_wp2_with fail
     refine (k0 _).mono ?_; rintro e w5 ⟨rfl, rfl⟩
     go_wp2_with fail
     go_ret2
     exact CmpRet.mk' HER.out (by rw [HS.out, if_pos (by trivial), HF.out]) (below_trans hb1 (below_trans hb2 (below_trans hb3 hb4)))
   · obtain ⟨pa, pb, px⟩ := hpx rfl
     obtain ⟨qa, qb, py⟩ := hpy rfl
     clear hpx hpy hix hiy
     have p1 := fun w hE => parse_c ⟨x.toArray⟩ (by show x.length + 2 <= _; omega) w hE
     have p2 := fun w hE => parse_c ⟨y.toArray⟩ (by show y.length + 2 <= _; omega) w hE
     unfold ParseP at p1 p2
     have dx : (⟨x.toArray⟩ : ByteArray).data.toList = x := rfl
     have dy : (⟨y.toArray⟩ : ByteArray).data.toList = y := rfl
     rw [dx, px] at p1
     rw [dy, py] at p2
     simp only at p1 p2
     have HF : Hid (cmpN 4 x y = cmpP pa pb qa qb) := hZ9 (by
      show (match PhS.parseP x, PhS.parseP y with | some (a, b), some (c, d) => cmpP a b c d | _, _ => 0) = _
      rw [px, py])
     have n1 := compare_c pa pb qa qb (PhS.parseP_some.1 px).1 (PhS.parseP_some.1 py).1
     clear px py dx dy
     generalize cmpP pa pb qa qb = q at *
     go_wp2_with fail
     refine (hty _).mono ?_; rintro e w2 ⟨rfl, hb2⟩
     go_wp2_with fail
     refine (p1 _ (hE1.below hb2)).mono ?_; rintro e w3 ⟨rfl, hb3⟩
     go_wp2_with fail
     refine (p2 _ ((hE1.below hb2).below hb3)).mono ?_; rintro e w4 ⟨rfl, hb4⟩
     go_wp2_with fail
     refine (n1 _).mono ?_; rintro e w5 ⟨rfl, hb5⟩
     go_wp2_with fail
     go_ret2
     exact CmpRet.mk' HER.out (by rw [HS.out, if_pos (by trivial), HF.out]) (below_trans hb1 (below_trans hb2 (below_trans hb3 (below_trans hb4 hb5))))
 · have hz : (er != 0) = true := by simpa using z1
   have HZ := hZ9 z1
   clear z1
   go_enter Tryz.func81, Tryz.ntmps81
   go_wp2_with fail
   refine h1.mono ?_; rintro e w1 ⟨x, y, rfl, hxy, hb1⟩
   clear hxy
   go_wp2_with fail
   go_ret2
   exact CmpRet.mk' HER.out (by rw [HS.out, if_neg HZ.out]) hb1
end
section
open Go.RowKit
attribute [local go_sem ↓] Go.wp_at_zero Go.wp_at_succ
def TwoAt (w _wz : World) (g1 g2 : Nat) (p q r t : Int) (w' : World) : Prop :=
 w'.cell? ⟨g1, 0, none⟩ = some (.int .i64 p) /\ w'.cell? ⟨g1, 1, none⟩ = some (.int .i64 q) /\ w'.cell? ⟨g2, 0, none⟩ = some (.int .i64 r) /\ w'.cell? ⟨g2, 1, none⟩ = some (.int .i64 t) /\ Below w.heap.size w w'
theorem TwoAt.drew {w wz w' : World} {g1 g2 : Nat} {p q r t : Int} (h : TwoAt w wz g1 g2 p q r t w') : TwoAt w wz g1 g2 p q r t w'.drew := ⟨h.1, h.2.1, h.2.2.1, h.2.2.2.1, h.2.2.2.2.drew⟩
theorem keepFour {w W w' : World} {g1 g2 : Nat} {v0 v1 v2 v3 : Value} (h0 : W.cell? ⟨g1, 0, none⟩ = some v0) (h1 : W.cell? ⟨g1, 1, none⟩ = some v1)
  (h2 : W.cell? ⟨g2, 0, none⟩ = some v2) (h3 : W.cell? ⟨g2, 1, none⟩ = some v3) (hb : Below w.heap.size w W) (h : Below W.heap.size W w') :
  w'.cell? ⟨g1, 0, none⟩ = some v0 /\ w'.cell? ⟨g1, 1, none⟩ = some v1 /\ w'.cell? ⟨g2, 0, none⟩ = some v2 /\ w'.cell? ⟨g2, 1, none⟩ = some v3 /\ Below w.heap.size w w' :=
 ⟨keepC h0 h, keepC h1 h, keepC h2 h, keepC h3 h, hb.trans (h.mono hb.size)⟩
theorem refcompareV_c (nm a b : ByteArray) (hn : nm.size <= 9223372036854775807) (ha : a.size <= 9223372036854775807) (hb : b.size <= 9223372036854775807) (w : World) (hE : Env w) :
  Calls Tryz.prog 89 #[.string nm, .string a, .string b] w (CmpRet nm.data.toList a.data.toList b.data.toList w) := by
 have h1 := refboth_c nm a b hn ha hb w hE
 have hty := fun w => reftype_c nm hn w
 unfold TypeRet at hty
 unfold BothRet at h1
 have HS : Hid (cmpB nm.data.toList a.data.toList b.data.toList = if errB nm.data.toList a.data.toList b.data.toList = 0 then cmpN (RuS.typeOf nm.data.toList).2 (RuS.normal nm.data.toList a.data.toList).1 (RuS.normal nm.data.toList b.data.toList).1 else 0) := hZ9 rfl
 generalize her : errB nm.data.toList a.data.toList b.data.toList = er at *
 have HER := hZ9 her
 clear her
 by_cases z1 : er = 0
 · subst z1
   go_enter Tryz.func89, Tryz.ntmps89
   go_wp2_with fail
   refine h1.mono ?_; rintro e w1 ⟨x, y, rfl, hxy, hb1⟩
   obtain ⟨hx, hy⟩ := hxy (by trivial)
   clear hxy
   obtain ⟨fx, fy⟩ := both_facts HER.out hx hy
   have hsy := (RuS.normal_ok fx).1
   have lx : x.length <= 200 := by rw [hx]; exact RuS.normal_len _ _
   have ly : y.length <= 200 := by rw [hy]; exact RuS.normal_len _ _
   have hpx := normal_plane fx
   have hpy := normal_plane fy
   have hix := normal_int fx
   have hiy := normal_int fy
   rw [<- hx, <- hy] at HS
   clear hx hy fx fy
   generalize RuS.typeOf nm.data.toList = r at *
   obtain ⟨t, sy⟩ := r
   simp only at hty hsy hpx hpy hix hiy HS
   have hE1 := hE.below hb1
   rcases hsy with rfl | rfl | rfl | rfl
   · clear hpx hpy hix hiy
     have HF : Hid (cmpN 1 x y = Lib.compareBytes x y) := hZ9 rfl
     have hl := RuS.less_iff x y
     have he := RuS.eq_iff x y
     have hr := RuS.compare_range x y
     generalize Lib.compareBytes x y = cb at *
     have hcb : cb = -1 \/ cb = 0 \/ cb = 1 := by omega
     clear hr
     rcases hcb with rfl | rfl | rfl
     all_goals
      simp only [Int.reduceNeg, decide_true, Int.reduceEq, decide_false] at hl he
      go_wp2_with fail
      refine (hty _).mono ?_; rintro e w2 ⟨rfl, hb2⟩
      go_wp2_with fail
      go_ret2
      exact CmpRet.mk' HER.out (by rw [HS.out, if_pos (by trivial), HF.out]) (below_trans hb1 hb2)
   · clear hpx hpy hix hiy
     have HF : Hid (cmpN 2 x y = Lib.compareBytes x y) := hZ9 rfl
     have hl := RuS.less_iff x y
     have he := RuS.eq_iff x y
     have hr := RuS.compare_range x y
     generalize Lib.compareBytes x y = cb at *
     have hcb : cb = -1 \/ cb = 0 \/ cb = 1 := by omega
     clear hr
     rcases hcb with rfl | rfl | rfl
     all_goals
      simp only [Int.reduceNeg, decide_true, Int.reduceEq, decide_false] at hl he
      go_wp2_with fail
      refine (hty _).mono ?_; rintro e w2 ⟨rfl, hb2⟩
      go_wp2_with fail
      go_ret2
      exact CmpRet.mk' HER.out (by rw [HS.out, if_pos (by trivial), HF.out]) (below_trans hb1 hb2)
   · obtain ⟨m, hm⟩ := hix rfl
     obtain ⟨n, hn2⟩ := hiy rfl
     clear hpx hpy hix hiy
     have i1 := fun w => refint_c ⟨x.toArray⟩ (by show x.length <= _; omega) w
     have i2 := fun w => refint_c ⟨y.toArray⟩ (by show y.length <= _; omega) w
     unfold IntRet at i1 i2
     have dx : (⟨x.toArray⟩ : ByteArray).data.toList = x := rfl
     have dy : (⟨y.toArray⟩ : ByteArray).data.toList = y := rfl
     rw [dx, RuS.intR_eq, hm] at i1
     rw [dy, RuS.intR_eq, hn2] at i2
     simp only [Option.getD_some, Option.isSome_some] at i1 i2
     have HF : Hid (cmpN 3 x y = if m < n then -1 else if n < m then 1 else 0) := hZ9 (by
      show cmpI ((RuS.intS x).getD 0) ((RuS.intS y).getD 0) = _
      rw [hm, hn2]; rfl)
     clear hm hn2 dx dy
     rcases Int.lt_trichotomy m n with h | h | h
     · go_wp2_with fail
       refine (hty _).mono ?_; rintro e w2 ⟨rfl, hb2⟩
       go_wp2_with fail
       refine (i1 _).mono ?_; rintro e w3 ⟨rfl, rfl⟩
       go_wp2_with fail
       refine (i2 _).mono ?_; rintro e w4 ⟨rfl, rfl⟩
       go_wp2_with fail
       go_ret2
       exact CmpRet.mk' HER.out (by rw [HS.out, if_pos (by trivial), HF.out, if_pos h]) (below_trans hb1 hb2)
     · subst h
       go_wp2_with fail
       refine (hty _).mono ?_; rintro e w2 ⟨rfl, hb2⟩
       go_wp2_with fail
       refine (i1 _).mono ?_; rintro e w3 ⟨rfl, rfl⟩
       go_wp2_with fail
       refine (i2 _).mono ?_; rintro e w4 ⟨rfl, rfl⟩
       go_wp2_with fail
       go_ret2
       exact CmpRet.mk' HER.out (by rw [HS.out, if_pos (by trivial), HF.out, if_neg (by omega), if_neg (by omega)]) (below_trans hb1 hb2)
     · go_wp2_with fail
       refine (hty _).mono ?_; rintro e w2 ⟨rfl, hb2⟩
       go_wp2_with fail
       refine (i1 _).mono ?_; rintro e w3 ⟨rfl, rfl⟩
       go_wp2_with fail
       refine (i2 _).mono ?_; rintro e w4 ⟨rfl, rfl⟩
       go_wp2_with fail
       go_ret2
       exact CmpRet.mk' HER.out (by rw [HS.out, if_pos (by trivial), HF.out, if_neg (by omega), if_pos h]) (below_trans hb1 hb2)
   · obtain ⟨pa, pb, px⟩ := hpx rfl
     obtain ⟨qa, qb, py⟩ := hpy rfl
     clear hpx hpy hix hiy
     have p1 := fun w hE => refparse_c ⟨x.toArray⟩ (by show x.length <= _; omega) w hE
     have p2 := fun w hE => refparse_c ⟨y.toArray⟩ (by show y.length <= _; omega) w hE
     unfold ParseRet at p1 p2
     have dx : (⟨x.toArray⟩ : ByteArray).data.toList = x := rfl
     have dy : (⟨y.toArray⟩ : ByteArray).data.toList = y := rfl
     rw [dx, px] at p1
     rw [dy, py] at p2
     simp only at p1 p2
     have hrx : pa.natAbs <= 1000000 /\ pb.natAbs <= 1000000 := of_decide_eq_true (PhS.parseP_some.1 px).1
     have hry : qa.natAbs <= 1000000 /\ qb.natAbs <= 1000000 := of_decide_eq_true (PhS.parseP_some.1 py).1
     have HF : Hid (cmpN 4 x y = cmpP pa pb qa qb) := hZ9 (by
      show (match PhS.parseP x, PhS.parseP y with | some (a, b), some (c, d) => cmpP a b c d | _, _ => 0) = _
      rw [px, py])
     have n1 := refcompare_c pa pb qa qb hrx.1 hrx.2 hry.1 hry.2
     unfold RefCmp at n1
     clear px py dx dy hrx hry
     generalize cmpP pa pb qa qb = q at *
     go_wp2_with fail
     refine (hty _).mono ?_; rintro e w2 ⟨rfl, hb2⟩
     go_wp2_with fail
     refine (p1 _ (hE1.below hb2)).mono ?_; rintro e w3 ⟨rfl, hb3⟩
     have hE3 := ((hE1.below hb2).below hb3).alloc (.cells #[.int .i64 pa, .int .i64 pb] 114)
     replace hb1 := below_trans (below_trans hb1 (below_trans hb2 hb3)) (grow1 w3 (.cells #[.int .i64 pa, .int .i64 pb] 114))
     go_wp2_with fail
     refine (p2 _ hE3).mono ?_; rintro e w4 ⟨rfl, hb4⟩
     have c0 : w4.cell? ⟨w3.heap.size, 0, none⟩ = some (.int .i64 pa) := keepC (by go_simp) hb4
     have c1 : w4.cell? ⟨w3.heap.size, 1, none⟩ = some (.int .i64 pb) := keepC (by go_simp) hb4
     replace hb1 := below_trans hb1 hb4
     have k := grow1 w4 (Obj.cells #[Value.int .i64 qa, Value.int .i64 qb] 114)
     replace c0 := keepC c0 k
     replace c1 := keepC c1 k
     replace hb1 := below_trans hb1 k
     go_wp2_with fail
     refine (n1 _).mono ?_; rintro e w5 ⟨rfl, hb5⟩
     go_wp2_with fail
     go_ret2
     exact CmpRet.mk' HER.out (by rw [HS.out, if_pos (by trivial), HF.out]) (below_trans hb1 hb5)
 · have hz : (er != 0) = true := by simpa using z1
   have HZ := hZ9 z1
   clear z1
   go_enter Tryz.func89, Tryz.ntmps89
   go_wp2_with fail
   refine h1.mono ?_; rintro e w1 ⟨x, y, rfl, hxy, hb1⟩
   clear hxy
   go_wp2_with fail
   go_ret2
   exact CmpRet.mk' HER.out (by rw [HS.out, if_neg HZ.out]) hb1
theorem refnear_c (nm a b : ByteArray) (hn : nm.size <= 9223372036854775807) (ha : a.size <= 9223372036854775807) (hb : b.size <= 9223372036854775807) (w : World) (hE : Env w) :
  Calls Tryz.prog 88 #[.string nm, .string a, .string b] w (NearRet nm.data.toList a.data.toList b.data.toList w) := by
 have h1 := refboth_c nm a b hn ha hb w hE
 have hty := fun w => reftype_c nm hn w
 unfold TypeRet at hty
 unfold BothRet at h1
 have HS : Hid (nearB nm.data.toList a.data.toList b.data.toList = (decide (errB nm.data.toList a.data.toList b.data.toList = 0) && nearN (RuS.typeOf nm.data.toList).2 (RuS.normal nm.data.toList a.data.toList).1 (RuS.normal nm.data.toList b.data.toList).1)) := hZ9 rfl
 generalize her : errB nm.data.toList a.data.toList b.data.toList = er at *
 have HER := hZ9 her
 clear her
 by_cases z1 : er = 0
 · subst z1
   go_enter Tryz.func88, Tryz.ntmps88
   go_wp2_with fail
   refine h1.mono ?_; rintro e w1 ⟨x, y, rfl, hxy, hb1⟩
   obtain ⟨hx, hy⟩ := hxy (by trivial)
   clear hxy
   obtain ⟨fx, fy⟩ := both_facts HER.out hx hy
   have hsy := (RuS.normal_ok fx).1
   have lx : x.length <= 200 := by rw [hx]; exact RuS.normal_len _ _
   have ly : y.length <= 200 := by rw [hy]; exact RuS.normal_len _ _
   have hpx := normal_plane fx
   have hpy := normal_plane fy
   rw [<- hx, <- hy] at HS
   clear hx hy fx fy
   generalize RuS.typeOf nm.data.toList = r at *
   obtain ⟨t, sy⟩ := r
   simp only at hty hsy hpx hpy HS
   rcases hsy with rfl | rfl | rfl | rfl
   · clear hpx hpy
     have hE1 := hE.below hb1
     have r1 := refbare_c x (by omega)
     have r2 := refbare_c y (by omega)
     have HF : Hid (nearN 1 x y = (RuS.bareL x == RuS.bareL y)) := hZ9 rfl
     generalize RuS.bareL x = bx at *
     generalize RuS.bareL y = by_ at *
     go_wp2_with fail
     refine (hty _).mono ?_; rintro e w2 ⟨rfl, hb2⟩
     go_wp2_with fail
     refine (r1 _).mono ?_; rintro e w3 ⟨rfl, hb3⟩
     go_wp2_with fail
     refine (r2 _).mono ?_; rintro e w4 ⟨rfl, hb4⟩
     go_wp2_with fail
     go_ret2
     exact NearRet.mk' HER.out (by rw [HS.out, HF.out]; simp) (below_trans hb1 (below_trans hb2 (below_trans hb3 hb4)))
   · clear hpx hpy
     have HF : Hid (nearN 2 x y = (x == y)) := hZ9 rfl
     go_wp2_with fail
     refine (hty _).mono ?_; rintro e w2 ⟨rfl, hb2⟩
     go_wp2_with fail
     go_ret2
     exact NearRet.mk' HER.out (by rw [HS.out, HF.out]; simp) (below_trans hb1 hb2)
   · clear hpx hpy
     have HF : Hid (nearN 3 x y = (x == y)) := hZ9 rfl
     go_wp2_with fail
     refine (hty _).mono ?_; rintro e w2 ⟨rfl, hb2⟩
     go_wp2_with fail
     go_ret2
     exact NearRet.mk' HER.out (by rw [HS.out, HF.out]; simp) (below_trans hb1 hb2)
   · obtain ⟨pa, pb, px⟩ := hpx rfl
     obtain ⟨qa, qb, py⟩ := hpy rfl
     clear hpx hpy
     have p1 := fun w hE => refparse_c ⟨x.toArray⟩ (by show x.length <= _; omega) w hE
     have p2 := fun w hE => refparse_c ⟨y.toArray⟩ (by show y.length <= _; omega) w hE
     unfold ParseRet at p1 p2
     have dx : (⟨x.toArray⟩ : ByteArray).data.toList = x := rfl
     have dy : (⟨y.toArray⟩ : ByteArray).data.toList = y := rfl
     rw [dx, px] at p1
     rw [dy, py] at p2
     simp only at p1 p2
     have hrx : pa.natAbs <= 1000000 /\ pb.natAbs <= 1000000 := of_decide_eq_true (PhS.parseP_some.1 px).1
     have hry : qa.natAbs <= 1000000 /\ qb.natAbs <= 1000000 := of_decide_eq_true (PhS.parseP_some.1 py).1
     have hE1 := hE.below hb1
     have HF : Hid (nearN 4 x y = decide (pa * pa + pb * pb = qa * qa + qb * qb)) := hZ9 (by
      show decide (normP x = normP y) = _
      unfold normP; rw [px, py])
     have n1 := refnorm2_c pa pb hrx.1 hrx.2
     have n2 := refnorm2_c qa qb hry.1 hry.2
     clear px py dx dy hrx hry
     generalize pa * pa + pb * pb = m1 at *
     generalize qa * qa + qb * qb = m2 at *
     go_wp2_with fail
     refine (hty _).mono ?_; rintro e w2 ⟨rfl, hb2⟩
     go_wp2_with fail
     refine (p1 _ (hE1.below hb2)).mono ?_; rintro e w3 ⟨rfl, hb3⟩
     have hE3 := ((hE1.below hb2).below hb3).alloc (.cells #[.int .i64 pa, .int .i64 pb] 114)
     replace hb1 := below_trans (below_trans hb1 (below_trans hb2 hb3)) (grow1 w3 (.cells #[.int .i64 pa, .int .i64 pb] 114))
     go_wp2_with fail
     refine (p2 _ hE3).mono ?_; rintro e w4 ⟨rfl, hb4⟩
     have c0 : w4.cell? ⟨w3.heap.size, 0, none⟩ = some (.int .i64 pa) := keepC (by go_simp) hb4
     have c1 : w4.cell? ⟨w3.heap.size, 1, none⟩ = some (.int .i64 pb) := keepC (by go_simp) hb4
     replace hb1 := below_trans hb1 hb4
     have k := grow1 w4 (Obj.cells #[Value.int .i64 qa, Value.int .i64 qb] 114)
     have d0 : (w4.alloc (Obj.cells #[Value.int .i64 qa, Value.int .i64 qb] 114)).cell? ⟨w4.heap.size, 0, none⟩ = some (.int .i64 qa) := by go_simp
     have d1 : (w4.alloc (Obj.cells #[Value.int .i64 qa, Value.int .i64 qb] 114)).cell? ⟨w4.heap.size, 1, none⟩ = some (.int .i64 qb) := by go_simp
     replace c0 := keepC c0 k
     replace c1 := keepC c1 k
     replace hb1 := below_trans hb1 k
     go_wp2_with fail
     clear k hb2 hb3 hb4 hE1 hE3 p1 p2 hty lx ly
     generalize (w4.alloc (Obj.cells #[Value.int .i64 qa, Value.int .i64 qb] 114)) = wz at *
     generalize w3.heap.size = g1 at *
     generalize w4.heap.size = g2 at *
     have hbeg : TwoAt w wz g1 g2 pa pb qa qb wz := ⟨c0, c1, d0, d1, hb1⟩
     clear c0 c1 d0 d1 hb1
     go_region_held3 (fun w' => w'.cell? ⟨g1, 0, none⟩ = some (.int .i64 pa) /\ w'.cell? ⟨g1, 1, none⟩ = some (.int .i64 pb) /\ w'.cell? ⟨g2, 0, none⟩ = some (.int .i64 qa) /\ w'.cell? ⟨g2, 1, none⟩ = some (.int .i64 qb) /\ Below w.heap.size w w')
      (first | exact hbeg.drew | (go_split_ands; exact keepFour (by assumption) (by assumption) (by assumption) (by assumption) (by assumption) hbN) | go_keep)
      (first
        | (go_at_call 117; ((with_reducible refine (n1 _).mono ?_); rintro e w1 ⟨rfl, hbN⟩))
        | (go_at_call 117; ((with_reducible refine (n2 _).mono ?_); rintro e w1 ⟨rfl, hbN⟩)))
     all_goals go_wp2_with fail
     all_goals go_split_ands
     all_goals go_ret2
     all_goals refine NearRet.mk' HER.out ?_ (by assumption)
     all_goals rw [HS.out, HF.out]
     all_goals first | rfl | (simp; done) | (rw [Bool.eq_iff_iff]; simp)
 · have hz : (er != 0) = true := by simpa using z1
   have HZ := hZ9 z1
   clear z1
   go_enter Tryz.func88, Tryz.ntmps88
   go_wp2_with fail
   refine h1.mono ?_; rintro e w1 ⟨x, y, rfl, hxy, hb1⟩
   clear hxy
   go_wp2_with fail
   go_ret2
   exact NearRet.mk' HER.out (by rw [HS.out, decide_eq_false HZ.out]; rfl) hb1
end
end Go.Proofs.YtjmfknfponjgkaaGreatDoor
