/- The walks of 'Near', the program's and the document's, and of the law of near values. Conditions: as stated. -/
import Derived.Deep.DeepCutAuto
import Derived.Deep.DrawnRows
import Derived.Deep.RegionHeld3
import Derived.Test.YtjmfknfponjgkaaGreatDoorJRuf
import Derived.Test.YtjmfknfponjgkaaGreatDoorJPhw
set_option maxRecDepth 100000
set_option maxHeartbeats 1000000
namespace Go.Proofs.YtjmfknfponjgkaaGreatDoor
open Go.RowKit
attribute [local go_sem ↓] Go.wp_at_zero Go.wp_at_succ
theorem normal_plane {nm a x : List UInt8} (h : RuS.normal nm a = (x, 0)) (h4 : (RuS.typeOf nm).2 = 4) : ∃ p q, PhS.parseP x = some (p, q) := by
 obtain ⟨_, _, _, hv⟩ := RuS.normal_ok h
 rw [h4] at hv
 have e := RuS.normV_same (by decide) hv
 subst e
 have hv : (if (PhS.parseP x).isSome then some x else none) = some x := hv
 cases hp : PhS.parseP x with
 | none => rw [hp] at hv; cases hv
 | some p => exact ⟨p.1, p.2, rfl⟩
theorem normal_int {nm a x : List UInt8} (h : RuS.normal nm a = (x, 0)) (h3 : (RuS.typeOf nm).2 = 3) : ∃ n, RuS.intS x = some n := by
 obtain ⟨_, _, _, hv⟩ := RuS.normal_ok h
 rw [h3] at hv
 have e := RuS.normV_same (by decide) hv
 subst e
 have hv : (if (RuS.intS x).isSome then some x else none) = some x := hv
 cases hp : RuS.intS x with
 | none => rw [hp] at hv; cases hv
 | some p => exact ⟨p, rfl⟩
def normP (l : List UInt8) : Int := match PhS.parseP l with
 | some (a, b) => a * a + b * b
 | none => -1
def nearN (sy : Int) (x y : List UInt8) : Bool := if sy = 1 then RuS.bareL x == RuS.bareL y else if sy = 4 then decide (normP x = normP y) else x == y
def nearB (nm a b : List UInt8) : Bool := decide (errB nm a b = 0) && nearN (RuS.typeOf nm).2 (RuS.normal nm a).1 (RuS.normal nm b).1
def NearRet (nm a b : List UInt8) (w : World) (e : Ending) (w' : World) : Prop := e = .returned (.tuple #[.bool (nearB nm a b), .int .i64 (errB nm a b)]) /\ Below w.heap.size w w'
theorem NearRet.mk' {nm a b : List UInt8} {w w' : World} {q : Bool} {n : Int} (h : errB nm a b = n) (hq : nearB nm a b = q) (hb : Below w.heap.size w w') : NearRet nm a b w (.returned (.tuple #[.bool q, .int .i64 n])) w' := by
 unfold NearRet; rw [h, hq]; exact ⟨rfl, hb⟩
theorem replace_bare (x : List UInt8) (hx : x.length <= 1000000) (w : World) (hE : Env w) :
  Calls Tryz.prog 103 #[.string ⟨x.toArray⟩, .string ⟨#[32]⟩, .string ⟨#[]⟩] w fun e w' => e = .returned (.string ⟨(RuS.bareL x).toArray⟩) /\ Below w.heap.size w w' := by
 obtain ⟨m, hm⟩ := hE.maxLen
 have hs : (⟨x.toArray⟩ : ByteArray).size = x.length := rfl
 refine (Tryz.strings_ReplaceAll ⟨x.toArray⟩ ⟨#[32]⟩ ⟨#[]⟩ m w (by rw [hs]; omega) hm (Nat.le_refl 1) (by rw [hs]; show x.length + _ * 0 <= _; omega)).mono ?_
 rintro e w' ⟨rfl, hb⟩
 refine ⟨?_, hb⟩
 show Ending.returned (.string ⟨(Lib.replaceAll x [32] []).toArray⟩) = _
 rw [RuS.replaceAll_bare]
theorem both_facts {nm a b x y : List UInt8} (h : errB nm a b = 0) (hx : x = (RuS.normal nm a).1) (hy : y = (RuS.normal nm b).1) : RuS.normal nm a = (x, 0) /\ RuS.normal nm b = (y, 0) := by
 obtain ⟨h1, h2⟩ := (errB_zero nm a b).1 h
 subst hx hy
 exact ⟨by rw [<- h1], by rw [<- h2]⟩
def BareLoop (l : List UInt8) (w0 : World) (out i : Value) (wr : World) : Prop :=
 ∃ k : Nat, k <= l.length /\ i = .int .i64 k /\ OwnB wr w0.heap.size out (RuS.bareL (l.take k)) /\ Below w0.heap.size w0 wr
theorem bareL_le (l : List UInt8) : (RuS.bareL l).length <= l.length := List.length_filter_le _ _
theorem bareL_yes (l : List UInt8) (k : Nat) (h : k < l.length) (hc : l[k] ≠ 32) : RuS.bareL (l.take (k + 1)) = RuS.bareL (l.take k) ++ [l[k]] := by
 unfold RuS.bareL
 rw [List.take_succ_eq_append_getElem h, List.filter_append]; simp [hc]
theorem bareL_no (l : List UInt8) (k : Nat) (h : k < l.length) (hc : l[k] = 32) : RuS.bareL (l.take (k + 1)) = RuS.bareL (l.take k) := by
 unfold RuS.bareL
 rw [List.take_succ_eq_append_getElem h, List.filter_append]; simp [hc]
theorem refbare_c (l : List UInt8) (hl : l.length <= 1000000) (w : World) : Calls Tryz.prog 116 #[.string ⟨l.toArray⟩] w fun e w' => e = .returned (.string ⟨(RuS.bareL l).toArray⟩) /\ Below w.heap.size w w' := by
 go_enter Tryz.func116, Tryz.ntmps116
 go_wp2_with fail
 go_loopw [3, 4] (fun out i wr => BareLoop l w out i wr) (fun _ i _ => l.length - (intOf i).toNat)
 case atStart => exact ⟨0, Nat.zero_le _, rfl, OwnB.empty _ _, Below.refl _ _⟩
 case round =>
  obtain ⟨k, hk, rfl, hown, hb⟩ := hrel
  by_cases hlt : k < l.length
  · have HY := hZ9 (bareL_yes l k hlt)
    have HNO := hZ9 (bareL_no l k hlt)
    have hle := bareL_le (l.take k)
    have hle2 : (l.take k).length <= l.length := by simp; omega
    generalize hcq : l[k] = c at *
    have hq2 : ∀ h, (⟨l.toArray⟩ : ByteArray)[k]'h = c := fun _ => hcq
    clear hcq
    generalize RuS.bareL (l.take k) = acc at *
    have hle3 : acc.length <= 1000000 := by omega
    clear hle hle2
    by_cases c32 : (c.toNat : Int) = 32
    · have HC : Hid (c = 32) := hZ9 (u8_of (n := 32) (by decide) c32)
      go_wp2_with fail
      go_roundw
      case rel => exact ⟨k + 1, by omega, by go_num, by rw [HNO.out HC.out]; exact hown, hb⟩
      case measure => simp [intOf]; omega
    · have HC : Hid (c ≠ 32) := hZ9 (fun e => c32 (by rw [e]; rfl))
      have k32 : ((c.toNat : Int) != 32) = true := by simpa using c32
      clear c32
      go_wp2_with (at_builtin; refine push_bytes (by rfl) _ _ (by rfl) w.heap.size _ acc (by rfl) (hown.alloc _) wr.heap.size 1 1 (by rfl) [c] (by rfl) ?c1 ?c2 ?c3 ?_)
      case c1 => first | exact one_cell (by simp [go_sem, byteV]) | exact one_list _
      case c2 => omega
      case c3 => have := hb.size; simp; omega
      intro v' w2 hown2 hb2
      go_wp2_with fail
      go_roundw
      case rel => exact ⟨k + 1, by omega, by go_num, by rw [HY.out HC.out]; exact hown2, (hb.alloc hb.size _).trans hb2⟩
      case measure => simp [intOf]; omega
  · have hall : l.take k = l := List.take_of_length_le (by omega)
    rw [hall] at hown
    clear hall
    have hback := hown.back
    go_wp2_with fail
    go_ret
    exact ⟨rfl, hb⟩
theorem near_c (nm a b : ByteArray) (hn : nm.size <= 9223372036854775807) (ha : a.size <= 9223372036854775807) (hb : b.size <= 9223372036854775807) (w : World) (hE : Env w) :
  Calls Tryz.prog 80 #[.string nm, .string a, .string b] w (NearRet nm.data.toList a.data.toList b.data.toList w) := by
 have h1 := both_c nm a b hn ha hb w hE
 have hty := fun w => type_c nm hn w
 unfold TypeRet at hty
 unfold BothRet at h1
 have HS : Hid (nearB nm.data.toList a.data.toList b.data.toList = (decide (errB nm.data.toList a.data.toList b.data.toList = 0) && nearN (RuS.typeOf nm.data.toList).2 (RuS.normal nm.data.toList a.data.toList).1 (RuS.normal nm.data.toList b.data.toList).1)) := hZ9 rfl
 generalize her : errB nm.data.toList a.data.toList b.data.toList = er at *
 have HER := hZ9 her
 clear her
 by_cases z1 : er = 0
 · subst z1
   go_enter Tryz.func80, Tryz.ntmps80
   go_wp2_with fail
   refine h1.mono ?_; rintro e w1 ⟨x, y, rfl, hxy, hb1⟩
   obtain ⟨hx, hy⟩ := hxy (by trivial)
   clear hxy
   obtain ⟨fx, fy⟩ := both_facts HER.out hx hy
   have hsy := (RuS.normal_ok fx).1
   have lx : x.length <= 200 := by rw [hx]; exact RuS.normal_len _ _
   have ly : y.length <= 200 := by rw [hy]; exact RuS.normal_len _ _
   have hpx := normal_plane fx
   have hpy := normal_plane fy
   rw [<- hx, <- hy] at HS
   clear hx hy fx fy
   generalize RuS.typeOf nm.data.toList = r at *
   obtain ⟨t, sy⟩ := r
   simp only at hty hsy hpx hpy HS
   rcases hsy with rfl | rfl | rfl | rfl
   · clear hpx hpy
     have hE1 := hE.below hb1
     have r1 := replace_bare x (by omega)
     have r2 := replace_bare y (by omega)
     have HF : Hid (nearN 1 x y = (RuS.bareL x == RuS.bareL y)) := hZ9 rfl
     generalize RuS.bareL x = bx at *
     generalize RuS.bareL y = by_ at *
     go_wp2_with fail
     refine (hty _).mono ?_; rintro e w2 ⟨rfl, hb2⟩
     go_wp2_with fail
     refine (r1 _ (hE1.below hb2)).mono ?_; rintro e w3 ⟨rfl, hb3⟩
     go_wp2_with fail
     refine (r2 _ ((hE1.below hb2).below hb3)).mono ?_; rintro e w4 ⟨rfl, hb4⟩
     go_wp2_with fail
     go_ret2
     exact NearRet.mk' HER.out (by rw [HS.out, HF.out]; simp) (below_trans hb1 (below_trans hb2 (below_trans hb3 hb4)))
   · clear hpx hpy
     have HF : Hid (nearN 2 x y = (x == y)) := hZ9 rfl
     go_wp2_with fail
     refine (hty _).mono ?_; rintro e w2 ⟨rfl, hb2⟩
     go_wp2_with fail
     go_ret2
     exact NearRet.mk' HER.out (by rw [HS.out, HF.out]; simp) (below_trans hb1 hb2)
   · clear hpx hpy
     have HF : Hid (nearN 3 x y = (x == y)) := hZ9 rfl
     go_wp2_with fail
     refine (hty _).mono ?_; rintro e w2 ⟨rfl, hb2⟩
     go_wp2_with fail
     go_ret2
     exact NearRet.mk' HER.out (by rw [HS.out, HF.out]; simp) (below_trans hb1 hb2)
   · obtain ⟨pa, pb, px⟩ := hpx rfl
     obtain ⟨qa, qb, py⟩ := hpy rfl
     clear hpx hpy
     have hE1 := hE.below hb1
     have p1 := fun w hE => parse_c ⟨x.toArray⟩ (by show x.length + 2 <= _; omega) w hE
     have p2 := fun w hE => parse_c ⟨y.toArray⟩ (by show y.length + 2 <= _; omega) w hE
     unfold ParseP at p1 p2
     have dx : (⟨x.toArray⟩ : ByteArray).data.toList = x := rfl
     have dy : (⟨y.toArray⟩ : ByteArray).data.toList = y := rfl
     rw [dx, px] at p1
     rw [dy, py] at p2
     simp only at p1 p2
     have HF : Hid (nearN 4 x y = decide (pa * pa + pb * pb = qa * qa + qb * qb)) := hZ9 (by
      show decide (normP x = normP y) = _
      unfold normP; rw [px, py])
     have n1 := norm_c pa pb (PhS.parseP_some.1 px).1
     have n2 := norm_c qa qb (PhS.parseP_some.1 py).1
     clear px py dx dy
     generalize pa * pa + pb * pb = m1 at *
     generalize qa * qa + qb * qb = m2 at *
     go_wp2_with fail
     refine (hty _).mono ?_; rintro e w2 ⟨rfl, hb2⟩
     go_wp2_with fail
     refine (p1 _ (hE1.below hb2)).mono ?_; rintro e w3 ⟨rfl, hb3⟩
     go_wp2_with fail
     refine (p2 _ ((hE1.below hb2).below hb3)).mono ?_; rintro e w4 ⟨rfl, hb4⟩
     go_wp2_with fail
     refine (n1 _).mono ?_; rintro e w5 ⟨rfl, hb5⟩
     go_wp2_with fail
     refine (n2 _).mono ?_; rintro e w6 ⟨rfl, hb6⟩
     go_wp2_with fail
     go_ret2
     refine NearRet.mk' HER.out ?_ (below_trans hb1 (below_trans hb2 (below_trans hb3 (below_trans hb4 (below_trans hb5 hb6)))))
     rw [HS.out, HF.out]
     first | rfl | (simp; done) | (rw [Bool.eq_iff_iff]; simp)
 · have hz : (er != 0) = true := by simpa using z1
   have HZ := hZ9 z1
   clear z1
   go_enter Tryz.func80, Tryz.ntmps80
   go_wp2_with fail
   refine h1.mono ?_; rintro e w1 ⟨x, y, rfl, hxy, hb1⟩
   clear hxy
   go_wp2_with fail
   go_ret2
   exact NearRet.mk' HER.out (by rw [HS.out, decide_eq_false HZ.out]; rfl) hb1
end Go.Proofs.YtjmfknfponjgkaaGreatDoor
