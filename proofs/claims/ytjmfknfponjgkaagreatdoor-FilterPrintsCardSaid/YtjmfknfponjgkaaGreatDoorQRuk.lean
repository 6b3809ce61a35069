/- The walk of the program's 'Compare' of values. Condition: the library's variables are laid. -/
import Derived.Test.YtjmfknfponjgkaaGreatDoorQRuj
namespace Go.Proofs.YtjmfknfponjgkaaGreatDoor
open Go.RowKit

/-- two normal values of a syntax, compared -/
def cmpN (sy : Int) (x y : List UInt8) : Int := if sy = 3 then cmpI ((RuS.intS x).getD 0) ((RuS.intS y).getD 0)
  else if sy = 4 then (match PhS.parseP x, PhS.parseP y with
    | some (a, b), some (c, d) => cmpP a b c d
    | _, _ => 0)
  else Lib.compareBytes x y
def cmpB (nm a b : List UInt8) : Int := if errB nm a b = 0 then cmpN (RuS.typeOf nm).2 (RuS.normal nm a).1 (RuS.normal nm b).1 else 0
def CmpRet (nm a b : List UInt8) (w : World) (e : Ending) (w' : World) : Prop := e = .returned (.tuple #[.int .i64 (cmpB nm a b), .int .i64 (errB nm a b)]) ∧ Below w.heap.size w w'
theorem CmpRet.mk' {nm a b : List UInt8} {w w' : World} {q n : Int} (h : errB nm a b = n) (hq : cmpB nm a b = q) (hb : Below w.heap.size w w') : CmpRet nm a b w (.returned (.tuple #[.int .i64 q, .int .i64 n])) w' := by
  unfold CmpRet; rw [h, hq]; exact ⟨rfl, hb⟩

theorem parse_of_int {x : List UInt8} {n : Int} (h : RuS.intS x = some n) (hx : x.length ≤ 1000000) (w : World) :
    Calls Tryz.prog 106 #[.string ⟨x.toArray⟩, .int .i64 10, .int .i64 64] w fun e w' => e = .returned (.tuple #[.int .i64 n, .nilIface]) ∧ Below w.heap.size w w' := by
  obtain ⟨h1, h2⟩ := RuS.intS_iff.1 h
  refine parseInt64_ok ⟨x.toArray⟩ (by show x.length ≤ _; omega) n ?_ w
  show Lib.parseIntB 64 x = .ok n
  rw [← h1]
  exact RuS.parse64_itoa n h2

set_option maxRecDepth 100000 in
set_option maxHeartbeats 1000000 in
theorem rulecompare_c (nm a b : ByteArray) (hn : nm.size ≤ 9223372036854775807) (ha : a.size ≤ 9223372036854775807) (hb : b.size ≤ 9223372036854775807) (w : World) (hE : Env w) :
    Calls Tryz.prog 81 #[.string nm, .string a, .string b] w (CmpRet nm.data.toList a.data.toList b.data.toList w) := by
  have h1 := both_c nm a b hn ha hb w hE
  have hty := fun w => type_c nm hn w
  unfold TypeRet at hty
  unfold BothRet at h1
  have HS : Hid (cmpB nm.data.toList a.data.toList b.data.toList = if errB nm.data.toList a.data.toList b.data.toList = 0 then cmpN (RuS.typeOf nm.data.toList).2 (RuS.normal nm.data.toList a.data.toList).1 (RuS.normal nm.data.toList b.data.toList).1 else 0) := Lib.hid rfl
  generalize her : errB nm.data.toList a.data.toList b.data.toList = er at *
  have HER := Lib.hid her
  clear her
  by_cases z1 : er = 0
  · subst z1
    go_enter Tryz.func81, Tryz.ntmps81
    go_wp2_with fail
    refine h1.mono ?_; rintro e w1 ⟨x, y, rfl, hxy, hb1⟩
    obtain ⟨hx, hy⟩ := hxy (by trivial)
    clear hxy
    obtain ⟨fx, fy⟩ := both_facts HER.out hx hy
    have hsy := (RuS.normal_ok fx).1
    have lx : x.length ≤ 200 := by rw [hx]; exact RuS.normal_len _ _
    have ly : y.length ≤ 200 := by rw [hy]; exact RuS.normal_len _ _
    have hpx := normal_plane fx
    have hpy := normal_plane fy
    have hix := normal_int fx
    have hiy := normal_int fy
    rw [← hx, ← hy] at HS
    clear hx hy fx fy
    generalize RuS.typeOf nm.data.toList = r at *
    obtain ⟨t, sy⟩ := r
    simp only at hty hsy hpx hpy hix hiy HS
    have hE1 := hE.below hb1
    rcases hsy with rfl | rfl | rfl | rfl
    · clear hpx hpy hix hiy
      have sc := fun w => Tryz.strings_Compare ⟨x.toArray⟩ ⟨y.toArray⟩ w
      have dx : (⟨x.toArray⟩ : ByteArray).data.toList = x := rfl
      have dy : (⟨y.toArray⟩ : ByteArray).data.toList = y := rfl
      rw [dx, dy] at sc
      clear dx dy
      have HF : Hid (cmpN 1 x y = Lib.compareBytes x y) := Lib.hid rfl
      generalize Lib.compareBytes x y = cb at *
      go_wp2_with fail
      refine (hty _).mono ?_; rintro e w2 ⟨rfl, hb2⟩
      go_wp2_with fail
      refine (sc _).mono ?_; rintro e w3 ⟨rfl, rfl⟩
      go_wp2_with fail
      go_ret2
      exact CmpRet.mk' HER.out (by rw [HS.out, if_pos (by trivial), HF.out]) (below_trans hb1 hb2)
    · clear hpx hpy hix hiy
      have sc := fun w => Tryz.strings_Compare ⟨x.toArray⟩ ⟨y.toArray⟩ w
      have dx : (⟨x.toArray⟩ : ByteArray).data.toList = x := rfl
      have dy : (⟨y.toArray⟩ : ByteArray).data.toList = y := rfl
      rw [dx, dy] at sc
      clear dx dy
      have HF : Hid (cmpN 2 x y = Lib.compareBytes x y) := Lib.hid rfl
      generalize Lib.compareBytes x y = cb at *
      go_wp2_with fail
      refine (hty _).mono ?_; rintro e w2 ⟨rfl, hb2⟩
      go_wp2_with fail
      refine (sc _).mono ?_; rintro e w3 ⟨rfl, rfl⟩
      go_wp2_with fail
      go_ret2
      exact CmpRet.mk' HER.out (by rw [HS.out, if_pos (by trivial), HF.out]) (below_trans hb1 hb2)
    · obtain ⟨m, hm⟩ := hix rfl
      obtain ⟨n, hn2⟩ := hiy rfl
      clear hpx hpy hix hiy
      have i1 := parse_of_int hm (by omega)
      have i2 := parse_of_int hn2 (by omega)
      have k0 := cmpInt_c m n
      have HF : Hid (cmpN 3 x y = cmpI m n) := Lib.hid (by
        show cmpI ((RuS.intS x).getD 0) ((RuS.intS y).getD 0) = _
        rw [hm, hn2]; rfl)
      clear hm hn2
      generalize cmpI m n = q at *
      go_wp2_with fail
      refine (hty _).mono ?_; rintro e w2 ⟨rfl, hb2⟩
      go_wp2_with fail
      refine (i1 _).mono ?_; rintro e w3 ⟨rfl, hb3⟩
      go_wp2_with fail
      refine (i2 _).mono ?_; rintro e w4 ⟨rfl, hb4⟩
      go_wp2_with fail
      refine (k0 _).mono ?_; rintro e w5 ⟨rfl, rfl⟩
      go_wp2_with fail
      go_ret2
      exact CmpRet.mk' HER.out (by rw [HS.out, if_pos (by trivial), HF.out]) (below_trans hb1 (below_trans hb2 (below_trans hb3 hb4)))
    · obtain ⟨pa, pb, px⟩ := hpx rfl
      obtain ⟨qa, qb, py⟩ := hpy rfl
      clear hpx hpy hix hiy
      have p1 := fun w hE => parse_c ⟨x.toArray⟩ (by show x.length + 2 ≤ _; omega) w hE
      have p2 := fun w hE => parse_c ⟨y.toArray⟩ (by show y.length + 2 ≤ _; omega) w hE
      unfold ParseP at p1 p2
      have dx : (⟨x.toArray⟩ : ByteArray).data.toList = x := rfl
      have dy : (⟨y.toArray⟩ : ByteArray).data.toList = y := rfl
      rw [dx, px] at p1
      rw [dy, py] at p2
      simp only at p1 p2
      have HF : Hid (cmpN 4 x y = cmpP pa pb qa qb) := Lib.hid (by
        show (match PhS.parseP x, PhS.parseP y with | some (a, b), some (c, d) => cmpP a b c d | _, _ => 0) = _
        rw [px, py])
      have n1 := compare_c pa pb qa qb (PhS.parseP_some.1 px).1 (PhS.parseP_some.1 py).1
      clear px py dx dy
      generalize cmpP pa pb qa qb = q at *
      go_wp2_with fail
      refine (hty _).mono ?_; rintro e w2 ⟨rfl, hb2⟩
      go_wp2_with fail
      refine (p1 _ (hE1.below hb2)).mono ?_; rintro e w3 ⟨rfl, hb3⟩
      go_wp2_with fail
      refine (p2 _ ((hE1.below hb2).below hb3)).mono ?_; rintro e w4 ⟨rfl, hb4⟩
      go_wp2_with fail
      refine (n1 _).mono ?_; rintro e w5 ⟨rfl, hb5⟩
      go_wp2_with fail
      go_ret2
      exact CmpRet.mk' HER.out (by rw [HS.out, if_pos (by trivial), HF.out]) (below_trans hb1 (below_trans hb2 (below_trans hb3 (below_trans hb4 hb5))))
  · have hz : (er != 0) = true := by simpa using z1
    have HZ := Lib.hid z1
    clear z1
    go_enter Tryz.func81, Tryz.ntmps81
    go_wp2_with fail
    refine h1.mono ?_; rintro e w1 ⟨x, y, rfl, hxy, hb1⟩
    clear hxy
    go_wp2_with fail
    go_ret2
    exact CmpRet.mk' HER.out (by rw [HS.out, if_neg HZ.out]) hb1

/-! the plain law of the comparison -/
end Go.Proofs.YtjmfknfponjgkaaGreatDoor
