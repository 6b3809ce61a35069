/- The walk of the program's 'Parse' of a part. Conditions: as stated. -/
import Derived.Lib.Strings
import Derived.Deep.DrawnRows
import Derived.Deep.RegionHeld3
import Derived.Deep.RegionLaw
import Derived.Test.YtjmfknfponjgkaaGreatDoorJRda
import Derived.Test.YtjmfknfponjgkaaGreatDoorJRdf
import Derived.Test.YtjmfknfponjgkaaGreatDoorJSrx
set_option maxRecDepth 100000
set_option maxHeartbeats 8000000
namespace Go.Proofs.YtjmfknfponjgkaaGreatDoor
section
open Go.RowKit
namespace RdS
theorem index_name : ∀ p : List UInt8, (p.contains 61 = true -> Lib.index p [61] = ((nameOf p).length : Int)) /\ (p.contains 61 = false -> Lib.index p [61] = -1)
 | [] => ⟨fun h => by simp at h, fun _ => by decide⟩
 | b :: p => by
  have ih := index_name p
  by_cases hb : b = 61
  · subst hb
    exact ⟨fun _ => by rw [RuS.index_cons_eq]; simp [nameOf], fun h => by simp at h⟩
  · have hc : (b :: p).contains 61 = p.contains 61 := by
     rw [List.contains_cons]
     have : ((61 : UInt8) == b) = false := by simpa using fun e => hb e.symm
     rw [this, Bool.false_or]
    have hn : nameOf (b :: p) = b :: nameOf p := by unfold nameOf; rw [List.takeWhile_cons, if_pos (by simpa using hb)]
    rw [hc, hn, RuS.index_cons_ne hb]
    refine ⟨fun h => ?_, fun h => ?_⟩
    · rw [ih.1 h, if_neg (by rw [beq_iff_eq]; omega)]; simp
    · rw [ih.2 h]; rfl
theorem nameOf_take (p : List UInt8) : p.take (nameOf p).length = nameOf p := by
 have h := List.takeWhile_append_dropWhile (p := fun b : UInt8 => b != 61) (l := p)
 have h2 : p = nameOf p ++ p.dropWhile (fun b : UInt8 => b != 61) := h.symm
 conv => lhs; rw [h2]
 rw [List.take_append_of_le_length (Nat.le_of_eq (by congr 1; rw [<- h2]))]
 rw [<- h2]; exact List.take_length
theorem cut_yes {p : List UInt8} (h : p.contains 61 = true) : Lib.cut p [61] = (nameOf p, p.drop ((nameOf p).length + 1), true) := by
 have hi := (index_name p).1 h
 unfold Lib.cut
 rw [hi, if_pos (by omega), Int.toNat_natCast, nameOf_take]; rfl
theorem cut_no {p : List UInt8} (h : p.contains 61 = false) : Lib.cut p [61] = (p, [], false) := by
 have hi := (index_name p).2 h
 unfold Lib.cut
 rw [hi, if_neg (by decide)]
theorem nameOf_len (p : List UInt8) : (nameOf p).length <= p.length := by
 have := congrArg List.length (nameOf_take p)
 rw [List.length_take] at this; omega
theorem readL_len : ∀ (l : List UInt8) (f : Bool) (v : List UInt8), readL f l = some v -> v.length <= l.length := by
 intro l
 induction h : l.length using Nat.strongRecOn generalizing l with
 | _ n ih =>
  intro f v hv
  match l, h, hv with
  | [], h, hv => cases hv; simp
  | [c], h, hv =>
   unfold readL at hv
   split at hv
   · cases hv
   · cases hv; simp at h; simp; omega
  | c :: d :: r, h, hv =>
   have hd : (d :: r).length < n := by rw [<- h]; simp
   have hr : r.length < n := by rw [<- h]; simp; omega
   by_cases hc : c = 92
   · subst hc
     cases hb : bare1 d with
     | true =>
      rw [readL_stroke_bare f hb] at hv
      obtain ⟨u, hu, rfl⟩ := Option.map_eq_some_iff.1 hv
      have := ih _ hr r rfl false u hu
      simp only [List.length_cons] at h ⊢; omega
     | false =>
      match r, hr, h, hv with
      | [], hr, h, hv => rw [readL_stroke_none2 f hb] at hv; cases hv
      | e :: r, hr, h, hv =>
       cases h1 : hexOf d with
       | none => rw [readL_stroke_none1 f hb (.inl h1)] at hv; cases hv
       | some x =>
        cases h2 : hexOf e with
        | none => rw [readL_stroke_none1 f hb (.inr h2)] at hv; cases hv
        | some y =>
         rw [readL_stroke_hex f hb h1 h2] at hv
         obtain ⟨u, hu, rfl⟩ := Option.map_eq_some_iff.1 hv
         have hr2 : r.length < n := by rw [<- h]; simp; omega
         have := ih _ hr2 r rfl false u hu
         simp only [List.length_cons] at h ⊢; omega
   · cases hb : badC f (d :: r).isEmpty c with
     | true => rw [readL_bad hc hb] at hv; cases hv
     | false =>
      rw [readL_plain hc hb] at hv
      obtain ⟨u, hu, rfl⟩ := Option.map_eq_some_iff.1 hv
      have := ih _ hd (d :: r) rfl false u hu
      simp only [List.length_cons] at h this ⊢; omega
theorem readS_len {l v : List UInt8} (h : readS l = some v) : v.length <= l.length := readL_len l true v h
end RdS
def PartRet (l : List UInt8) (w : World) (e : Ending) (w' : World) : Prop := ∃ v, e = .returned (.tuple #[v, .int .i64 (RdS.partS l).2]) /\ AvasIn w' v (RdS.partS l).1 /\ Below w.heap.size w w'
theorem PartRet.none {l : List UInt8} {w w' : World} (h : RdS.partS l = ([], 2)) (hb : Below w.heap.size w w') : PartRet l w (.returned (.tuple #[.slice none 0 0, .int .i64 2])) w' := by
 refine ⟨.slice Option.none 0 0, ?_, ?_, hb⟩
 · rw [h]
 · rw [h]; exact AvasIn.empty w'
def PartRetF (T : TypeId) (l : List UInt8) (w : World) (e : Ending) (w' : World) : Prop := ∃ v, e = .returned (.tuple #[v, .int .i64 (RdS.partS l).2]) /\ AvasIn w' v (RdS.partS l).1 /\ Below w.heap.size w w' /\ Tag T w' v
theorem PartRetF.plain {l : List UInt8} {w w' : World} {e : Ending} {T : TypeId} (h : PartRetF T l w e w') : PartRet l w e w' := by
 obtain ⟨v, h1, h2, h3, _⟩ := h; exact ⟨v, h1, h2, h3⟩
theorem PartRetF.none {T : TypeId} {l : List UInt8} {w w' : World} (h : RdS.partS l = ([], 2)) (hb : Below w.heap.size w w') : PartRetF T l w (.returned (.tuple #[.slice Option.none 0 0, .int .i64 2])) w' := by
 refine ⟨.slice Option.none 0 0, ?_, ?_, hb, Tag.nil _ _ _ _⟩
 · rw [h]
 · rw [h]; exact AvasIn.empty w'
def ParseLoop (ps : List (List UInt8)) (w0 : World) (out i : Value) (wr : World) : Prop :=
 ∃ (k : Nat) (qs : List RdS.Pr), k <= ps.length /\ i = .int .i64 k /\ OwnA 190 wr w0.heap.size out qs /\ qs.length = k /\ RdS.pairsS (ps.take k) = some qs /\ (∀ q ∈ qs, q.1.length <= 17 /\ q.2.length <= 1000000) /\ Below w0.heap.size w0 wr
theorem pairsS_step {ps : List (List UInt8)} {k : Nat} (h : k < ps.length) {qs : List RdS.Pr} (hq : RdS.pairsS (ps.take k) = some qs) {a : RdS.Pr} (ha : RdS.pairS ps[k] = some a) : RdS.pairsS (ps.take (k + 1)) = some (qs ++ [a]) := by
 rw [List.take_succ_eq_append_getElem h, RdS.pairsS_snoc, hq, ha]
theorem partS_none {l : List UInt8} {k : Nat} {ps : List (List UInt8)} (hps : RdS.splitE 43 l = ps) (h : k < ps.length) (ha : RdS.pairS ps[k] = none) : RdS.partS l = ([], 2) := by
 unfold RdS.partS
 rw [hps, RdS.pairsS_none (List.getElem_mem h) ha]
theorem infoAva : (Tryz.prog.info? 190).map (fun i => (i.zero, i.size, i.bytes)) = some (some (.agg #[.string ⟨#[]⟩, .string ⟨#[]⟩]), 2, 32) := by kernel_rfl
theorem formed_long (a : Option Addr) (n c : Nat) (w : World) (hn : 3 < n) (hl : n <= 1000000) : Calls Tryz.prog 159 #[.slice a n c] w fun e w' => e = .returned (.bool false) /\ w = w' := by
 have hz : ((n : Int) == 0) = false := beq_eq_false_iff_ne.2 (by omega)
 have hz3 : (3 : Int) < (n : Int) := by omega
 go_enter Tryz.func159, Tryz.ntmps159
 go_wp2_with fail
 go_ret
 exact ⟨rfl, rfl⟩
theorem rdparse_f (l : List UInt8) (hl : l.length <= 100000) (w : World) (hE : Env w) : Calls Tryz.prog 158 #[.string ⟨l.toArray⟩] w (PartRetF 190 l w) := by
 have hsp := rdsplit_c l 43 (by omega) (by decide) w
 unfold SplitRet at hsp
 have hsl := RdS.splitE_len (sep := 43) l
 have hsm := RdS.splitE_small (sep := 43) l
 obtain ⟨p0, ps0, hne⟩ := RdS.splitE_ne 43 l
 have HNE : Hid (1 <= (RdS.splitE 43 l).length) := hZ9 (by rw [hne]; simp)
 clear hne
 obtain ⟨ps, hps⟩ : ∃ ps, RdS.splitE 43 l = ps := ⟨_, rfl⟩
 rw [hps] at hsp hsl hsm HNE
 have HPS := hZ9 hps
 have HSM := hZ9 hsm
 clear hps hsm
 go_enter Tryz.func158, Tryz.ntmps158
 go_wp2_with fail
 refine hsp.mono ?_
 rintro e w0 ⟨v, rfl, hv, hb0⟩
 obtain ⟨a, c, rfl, hc, hcase⟩ := hv
 generalize hn : ps.length = n at *
 have HN := hZ9 hn
 have hE0 := hE.below hb0
 rcases hcase with rfl | ⟨g, o, rfl, hg, hcell⟩
 · simp at hn; exact absurd HNE.out (by rw [<- hn]; simp)
 have HCELL := hZ9 hcell
 clear hn hcell hsp
 go_wp2_with fail
 go_loopw [4, 17] (fun out i wr => ParseLoop ps w0 out i wr) (fun _ i _ => n - (intOf i).toNat)
 case atStart => exact ⟨0, [], Nat.zero_le _, rfl, OwnA.empty _ _ _, rfl, rfl, by simp, Below.refl _ _⟩
 case round =>
  obtain ⟨k, qs, hk, rfl, hown, hql, hq, hqs, hb⟩ := hrel
  rw [HN.out] at hk
  have hsz := hb.size
  have hb00 : Below w.heap.size w wr := hb0.trans (hb.mono hb0.size)
  have hEr := hE.below hb00
  by_cases hlt : k < n
  · have hlt2 : k < ps.length := by rw [HN.out]; exact hlt
    have hcx : wr.cell? ⟨g, o + k, none⟩ = some (strV ps[k]) := (hb.cell (p := ⟨g, o + k, none⟩) hg).trans (HCELL.out k _ (List.getElem?_eq_getElem hlt2))
    have hpl := HSM.out ps[k] (List.getElem_mem hlt2)
    have HNO := hZ9 (partS_none HPS.out hlt2)
    have HYES := hZ9 (fun (a : RdS.Pr) => pairsS_step hlt2 hq (a := a))
    have HQS := hZ9 hqs
    generalize ps[k] = p at *
    unfold strV at hcx
    clear hq hlt2 hqs
    obtain ⟨m, hm⟩ := hEr.maxLen
    have hcut := Tryz.strings_Cut ⟨p.toArray⟩ ⟨#[61]⟩ m wr (by show p.toArray.size < _; rw [List.size_toArray]; omega) hm
    have dp : (⟨p.toArray⟩ : ByteArray).data.toList = p := rfl
    have d61 : (⟨#[61]⟩ : ByteArray).data.toList = [61] := rfl
    rw [dp, d61] at hcut
    clear dp d61 hm
    have hty := fun (nm : List UInt8) (h : nm.length <= 1000000) w => type_c ⟨nm.toArray⟩ (by show nm.toArray.size <= _; rw [List.size_toArray]; omega) w
    unfold TypeRet at hty
    cases h61 : p.contains 61 with
    | false =>
     rw [RdS.cut_no h61] at hcut
     have HN2 : Hid (RdS.partS l = ([], 2)) := hZ9 (HNO.out (by unfold RdS.pairS; rw [h61]; rfl))
     clear h61 HNO
     have ht := fun w => hty p (by omega) w
     clear hty
     generalize RuS.typeOf (⟨p.toArray⟩ : ByteArray).data.toList = ty at *
     have hvl := fun w => value_c [] (by simp) w
     unfold ValRet at hvl
     go_wp2_with fail
     refine hcut.mono ?_; rintro e w1 ⟨rfl, nd, rfl⟩
     go_wp2_with fail
     refine (ht _).mono ?_; rintro e w2 ⟨rfl, hb2⟩
     go_wp2_with fail
     refine (hvl _).mono ?_; rintro e w3 ⟨rfl, hb3⟩
     go_wp2_with fail
     go_ret2
     exact PartRetF.none HN2.out (hb00.trans ((below_trans (below_drewN wr nd) (below_trans hb2 hb3)).mono hb00.size))
    | true =>
     rw [RdS.cut_yes h61] at hcut
     have HP : Hid (RdS.pairS p = if (RuS.typeOf (RdS.nameOf p)).1 = [] then none else (RdS.readS (p.drop ((RdS.nameOf p).length + 1))).map ((RuS.typeOf (RdS.nameOf p)).1, ·)) := hZ9 (by unfold RdS.pairS; rw [h61]; rfl)
     have hnl := RdS.nameOf_len p
     have hrl : (p.drop ((RdS.nameOf p).length + 1)).length <= p.length := by rw [List.length_drop]; omega
     have ht := fun w => hty (RdS.nameOf p) (by omega) w
     have dn : (⟨(RdS.nameOf p).toArray⟩ : ByteArray).data.toList = RdS.nameOf p := rfl
     rw [dn] at ht
     have hta := RuS.typeM_all (RuS.lower (RdS.nameOf p))
     have hta2 : (RuS.typeOf (RdS.nameOf p)).1.length <= 17 := by
      rcases hta with e | e
      · have : RuS.typeOf (RdS.nameOf p) = ([], 0) := e
        rw [this]; simp
      · exact e.2.2.2
     have hvl := fun w => value_c (p.drop ((RdS.nameOf p).length + 1)) (by omega) w
     have hvn := fun v => RdS.readS_len (l := p.drop ((RdS.nameOf p).length + 1)) (v := v)
     clear h61 dn hta hty hnl
     unfold ValRet at hvl
     generalize p.drop ((RdS.nameOf p).length + 1) = rest at *
     generalize RuS.typeOf (RdS.nameOf p) = ty at *
     generalize RdS.nameOf p = nm at *
     obtain ⟨t, sy⟩ := ty
     simp only at ht hta2
     have HRL := hZ9 hrl
     have HVN := hZ9 hvn
     clear hrl hvn
     cases hr : RdS.readS rest with
     | none =>
      rw [hr] at hvl
      have HN2 : Hid (RdS.partS l = ([], 2)) := hZ9 (HNO.out (by rw [HP.out, hr]; split <;> rfl))
      clear hr HNO HYES
      go_wp2_with fail
      refine hcut.mono ?_; rintro e w1 ⟨rfl, nd, rfl⟩
      go_wp2_with fail
      refine (ht _).mono ?_; rintro e w2 ⟨rfl, hb2⟩
      go_wp2_with fail
      refine (hvl _).mono ?_; rintro e w3 ⟨rfl, hb3⟩
      go_wp2_with fail
      go_ret2
      exact PartRetF.none HN2.out (hb00.trans ((below_trans (below_drewN wr nd) (below_trans hb2 hb3)).mono hb00.size))
     | some v =>
      rw [hr] at hvl
      have hvlen := HVN.out v hr
      have HR := hZ9 hr
      have hv2 : v.length <= 1000000 := by have := HRL.out; omega
      clear hr
      cases hem : t.isEmpty with
      | true =>
       have HN2 : Hid (RdS.partS l = ([], 2)) := hZ9 (HNO.out (by rw [HP.out, if_pos (by simpa using hem)]))
       have HEM := hZ9 hem
       go_wp2_with fail
       refine hcut.mono ?_; rintro e w1 ⟨rfl, nd, rfl⟩
       go_wp2_with fail
       refine (ht _).mono ?_; rintro e w2 ⟨rfl, hb2⟩
       go_wp2_with fail
       refine (hvl _).mono ?_; rintro e w3 ⟨rfl, hb3⟩
       go_wp2_with fail
       go_ret2
       exact PartRetF.none HN2.out (hb00.trans ((below_trans (below_drewN wr nd) (below_trans hb2 hb3)).mono hb00.size))
      | false =>
       have HY2 := hZ9 (HYES.out (t, v) (by rw [HP.out, if_neg (by simpa using hem), HR.out]; rfl))
       obtain ⟨i0, hi, hz0, hz1, hz2⟩ := info_parts infoAva
       have HI := hZ9 hi
       have HOWN := hZ9 hown
       have hq1 : qs.length <= 1000001 := by omega
       clear HNO HYES hi hown
       go_wp2_with fail
       refine hcut.mono ?_; rintro e w1 ⟨rfl, nd, rfl⟩
       go_wp2_with fail
       refine (ht _).mono ?_; rintro e w2 ⟨rfl, hb2⟩
       go_wp2_with fail
       refine (hvl _).mono ?_; rintro e w3 ⟨rfl, hb3⟩
       have hbx : Below wr.heap.size wr w3 := below_trans (below_drewN wr nd) (below_trans hb2 hb3)
       have hszx := hbx.size
       go_wp2_with (at_builtin; refine push_ava 190 155 Tryz.underlying155 HI.out hz0 hz1 hz2 (by rfl) (by rfl) _ _ (by rfl) w0.heap.size _ qs (by rfl) ((HOWN.out.call hbx).alloc _) w3.heap.size (by rfl) (t, v) ?e1 ?e2 ?e3 ?e4 ?_)
       case e1 => simp [go_sem, strV]
       case e2 => simp [go_sem, strV]
       case e3 => omega
       case e4 => simp; omega
       intro v' w4 hown4 hb4
       go_wp2_with fail
       go_roundw
       case rel =>
        refine ⟨k + 1, qs ++ [(t, v)], by rw [HN.out]; omega, by go_num, hown4, by simp [hql], HY2.out, ?_, (hb.trans (hbx.mono hsz)).alloc (by omega) _ |>.trans hb4⟩
        intro q hq
        rcases List.mem_append.1 hq with hq | hq
        · exact HQS.out q hq
        · have := List.mem_singleton.1 hq; subst this; exact ⟨hta2, hv2⟩
       case measure => simp [intOf]; omega
  · have hkn : k = n := by omega
    subst hkn
    have hall : ps.take k = ps := List.take_of_length_le (by rw [HN.out]; omega)
    rw [hall] at hq
    have HPT : Hid (RdS.partS l = if RdS.formedS (RdS.sortS qs) then (RdS.sortS qs, 0) else ([], 2)) := hZ9 (by unfold RdS.partS; rw [HPS.out, hq])
    have hpos : qs ≠ [] := by intro h; have := HNE.out; rw [<- hql, h] at this; simp at this
    have hsrt := sort_c w0.heap.size _ qs wr hown hpos (by omega)
    unfold SortRet at hsrt
    obtain ⟨a, cp, rfl⟩ := hown.form
    rw [hql] at hsrt
    have HQS := hZ9 hqs
    clear hall hq hown hqs
    go_wp2_with fail
    refine hsrt.mono ?_
    rintro e w1 ⟨rfl, hb1, ys, hyl, hav, hyp, htg⟩
    have HTG := hZ9 htg
    clear htg
    have hb2 : Below w.heap.size w w1 := hb00.trans (hb1.mono hb0.size)
    have HYP := hZ9 hyp
    clear hyp hsrt
    by_cases h20 : k < 20
    · obtain ⟨hp1, hp2⟩ := HYP.out h20
      have hss := RdS.sort_same hp1 hp2
      have hfit : PairsFit ys := fun q hq => by
       have := HQS.out q (hp1.mem_iff.1 hq)
       omega
      have hfm := formed_any _ ys w1 hav hfit (hE.below hb2)
      unfold FmRet at hfm
      have HSS := hZ9 hss
      have HAV := hZ9 hav
      clear hp1 hp2 hss hfit hav
      cases hfd : RdS.formedS ys with
      | true =>
       have HFD := hZ9 hfd
       rw [hfd] at hfm
       clear hfd
       go_wp2_with fail
       refine hfm.mono ?_; rintro e w2 ⟨rfl, hb3⟩
       go_wp2_with fail
       go_ret2
       have e1 : RdS.partS l = (ys, 0) := by rw [HPT.out, <- HSS.out.1, if_pos HFD.out, HSS.out.2 HFD.out]
       exact ⟨_, by rw [e1]; rfl, by rw [e1]; exact HAV.out.call hb3 (Nat.le_refl _), hb2.trans (hb3.mono hb2.size), HTG.out.call hb3⟩
      | false =>
       have HFD := hZ9 hfd
       rw [hfd] at hfm
       clear hfd
       go_wp2_with fail
       refine hfm.mono ?_; rintro e w2 ⟨rfl, hb3⟩
       go_wp2_with fail
       go_ret2
       exact PartRetF.none (by rw [HPT.out, <- HSS.out.1, if_neg (by rw [HFD.out]; decide)]) (hb2.trans (hb3.mono hb2.size))
    · have hfm := formed_long a k cp w1 (by omega) (by omega)
      have HFD : Hid (RdS.formedS (RdS.sortS qs) = false) := hZ9 (by
       unfold RdS.formedS; rw [RdS.sortS_length, hql, decide_eq_false (show ¬ k <= 3 by omega)]; simp)
      clear hav
      go_wp2_with fail
      refine hfm.mono ?_; rintro e w2 ⟨rfl, rfl⟩
      go_wp2_with fail
      go_ret2
      exact PartRetF.none (by rw [HPT.out, if_neg (by rw [HFD.out]; decide)]) hb2
end
section
open Go.RowKit
attribute [local go_sem ↓] Go.wp_at_zero Go.wp_at_succ
def ReadLoop (l : List UInt8) (w : World) (out i : Value) (wr : World) : Prop :=
 ∃ (k : Nat) (acc : List UInt8), k <= l.length /\ i = .int .i64 k /\ OwnB wr w.heap.size out acc /\ acc.length <= k /\ RdS.readS l = (RdS.readL (decide (k = 0)) (l.drop k)).map (acc ++ ·) /\ Below w.heap.size w wr
theorem step_push {w : World} {ops : Array Oper} {o : Oper} {a : Act} {K : Act -> World -> Prop} {Q : Exit -> Act -> World -> Prop} {E : Prop} (hgd : o.guard = none) (s x : Operand)
  (ho : o.op = .call { callee := .builtin .append, args := #[s, x], argTypes := #[61, 61] })
  (B : Nat) (v : Value) (l : List UInt8) (hs : a.eval s = v) (hown : OwnB w B v l) (g c : Nat) (hx : a.eval x = .slice (some ⟨g, 0, none⟩) 1 c)
  (y : UInt8) (hc : w.cell? ⟨g, 0, none⟩ = some (byteV y)) (hn : l.length <= 1000000000) (hB : B <= w.heap.size)
  (hK : ∀ v' w', OwnB w' B v' (l ++ [y]) -> Below B w w' -> K (a.put o.dst v') w') : if Region.wanted o (yielded ops a.tmps) = true then Oper.wp Tryz.prog o a w K Q else E := by
 have hw : Region.wanted o (yielded ops a.tmps) = true := by simp [Region.wanted, hgd]
 rw [if_pos hw]
 obtain ⟨i0, hi, hz0, hz1, hz2⟩ := info_parts infoU8
 refine wp_append_own w s x _ ho B 5 i0 (.int .u8 0) 1 1 Tryz.underlying61 hi hz0 hz1 hz2 rfl (by decide) v l.length (l.map byteV) hs hown ⟨g, 0, none⟩ 1 c [byteV y] hx rfl
  (fun j u hj => ?_) (fun u hu => ?_) (by unfold maxLen; omega) (by omega) hB (fun v' w' h1 h2 _ => hK v' w' ?_ ?_)
 · have hj0 : j = 0 := by
    rcases Nat.eq_zero_or_pos j with h | h
    · exact h
    · rw [List.getElem?_eq_none (by simp; omega)] at hj; cases hj
   subst hj0
   have hadd : (⟨g, 0, none⟩ : Addr).add 0 = ⟨g, 0, none⟩ := by unfold Addr.add; split <;> simp_all
   rw [hadd, hc]
   simpa using hj
 · rw [List.mem_singleton] at hu; subst hu; rfl
 · unfold OwnB
   rw [List.map_append, List.length_append]
   exact h1
 · exact (Below.refl B w).grown h2 hB (fun k hk => (World.ownsRow.lt hown k hk).1)
theorem refread_c (l : List UInt8) (hl : l.length <= 1000000) (w : World) : Calls Tryz.prog 215 #[.string ⟨l.toArray⟩] w (ValRet l w) := by
 go_enter Tryz.func215, Tryz.ntmps215
 go_wp2_with fail
 go_loopw [4, 5] (fun out i wr => ReadLoop l w out i wr) (fun _ i _ => l.length - (intOf i).toNat)
 case atStart => exact ⟨0, [], Nat.zero_le _, rfl, OwnB.empty _ _, Nat.zero_le _, by simp [RdS.readS], Below.refl _ _⟩
 case round =>
  obtain ⟨k, acc, hk, rfl, hown, hacc, hsp, hb⟩ := hrel
  have HK := hZ9 hk
  have HSP := hZ9 hsp
  have hsz := hb.size
  clear hsp hk
  by_cases hlt : k < l.length
  · have HD := hZ9 (List.drop_eq_getElem_cons hlt)
    generalize hcq : l[k] = c at *
    have hq2 : ∀ h, (⟨l.toArray⟩ : ByteArray)[k]'h = c := fun _ => hcq
    clear hcq
    have HNONE : Hid (RdS.readL (decide (k = 0)) (l.drop k) = none -> RdS.readS l = none) := hZ9 (fun h => by rw [HSP.out, h]; rfl)
    have HFIN : Hid (∀ (k2 : Nat) (x : UInt8) (out i : Value) (w2 : World), k2 <= l.length -> k < k2 -> i = .int .i64 k2 -> RdS.readL (decide (k = 0)) (l.drop k) = (RdS.readL false (l.drop k2)).map (x :: ·) -> OwnB w2 w.heap.size out (acc ++ [x]) -> Below w.heap.size w w2 -> ReadLoop l w out i w2) :=
     hZ9 (fun k2 x out i w2 h1 h2 hi h3 h4 h5 => ⟨k2, acc ++ [x], h1, hi, h4, by simp; omega, by rw [HSP.out, h3, Option.map_map, decide_eq_false (show ¬ k2 = 0 by omega)]; congr 1; funext y; simp, h5⟩)
    have ez0 : ((k : Int) == 0) = decide (k = 0) := by rw [Bool.eq_iff_iff, beq_iff_eq, decide_eq_true_eq]; omega
    by_cases h92 : c = 92
    · have HC9 := hZ9 h92
      have e92 : ((c.toNat : Int) != 92) = false := by rw [h92]; rfl
      clear h92
      by_cases hk1 : k + 1 < l.length
      · have HD1 := hZ9 (List.drop_eq_getElem_cons hk1)
        generalize hdq : l[k + 1] = d at *
        have hq3 : ∀ h, (⟨l.toArray⟩ : ByteArray)[k + 1]'h = d := fun _ => hdq
        clear hdq
        have hk1z : (k : Int) + 1 < (l.length : Int) := by omega
        have hspd := fun w => special_c d w
        have HBR : Hid (RdS.bare1 d = (RdS.special d || d == 35 || d == 61 || d == 32)) := hZ9 rfl
        have HE : Hid (RdS.bare1 d = true -> RdS.readL (decide (k = 0)) (l.drop k) = (RdS.readL false (l.drop (k + 2))).map (d :: ·)) := hZ9 (fun h => by rw [HD.out, HC9.out, HD1.out, RdS.readL_stroke_bare _ h])
        generalize hsv : RdS.special d = sv at *
        by_cases hbr : sv = true \/ d = 35 \/ d = 61 \/ d = 32
        · have HBT : Hid (RdS.bare1 d = true) := hZ9 (by rw [HBR.out]; rcases hbr with rfl | rfl | rfl | rfl <;> simp)
          have HE2 := hZ9 (HE.out HBT.out)
          have hcase : sv = true \/ (sv = false /\ ((d.toNat : Int) == 35) = true) \/ (sv = false /\ ((d.toNat : Int) == 35) = false /\ ((d.toNat : Int) == 61) = true) \/ (sv = false /\ ((d.toNat : Int) == 35) = false /\ ((d.toNat : Int) == 61) = false /\ ((d.toNat : Int) == 32) = true) := by
           rcases hbr with rfl | rfl | rfl | rfl
           · exact .inl rfl
           · cases sv <;> simp
           · cases sv <;> simp
           · cases sv <;> simp
          have HSV := hZ9 hsv
          clear hbr hsv
          rcases hcase with rfl | ⟨rfl, g1⟩ | ⟨rfl, g1, g2⟩ | ⟨rfl, g1, g2, g3⟩
          all_goals
           go_wp2_with fail
           refine (hspd _).mono ?_; rintro e w1 ⟨rfl, rfl⟩
           go_wp2_with (at_builtin; refine push_bytes (by rfl) _ _ (by rfl) w.heap.size _ acc (by rfl) (hown.alloc _) wr.heap.size 1 1 (by rfl) [d] (by rfl) ?c1 ?c2 ?c3 ?_)
           case c1 => first | exact one_cell (by simp [go_sem, byteV]) | exact one_list _
           case c2 => omega
           case c3 => simp; omega
           intro v' w2 hown2 hb2
           go_wp2_with fail
           go_roundw
           case rel => exact HFIN.out (k + 2) d _ _ _ (by omega) (by omega) (by go_num) HE2.out hown2 ((hb.alloc hsz _).trans hb2)
           case measure => simp [intOf]; omega
        · have hsf : sv = false := by cases sv with | true => exact absurd (.inl rfl) hbr | false => rfl
          subst hsf
          have HBF : Hid (RdS.bare1 d = false) := hZ9 (by
           rw [HBR.out]
           have n1 : (d == 35) = false := by simpa using fun h => hbr (.inr (.inl h))
           have n2 : (d == 61) = false := by simpa using fun h => hbr (.inr (.inr (.inl h)))
           have n3 : (d == 32) = false := by simpa using fun h => hbr (.inr (.inr (.inr h)))
           rw [n1, n2, n3]; rfl)
          have g1 : ((d.toNat : Int) == 35) = false := beq_eq_false_iff_ne.2 (fun h => hbr (.inr (.inl (u8_is rfl h))))
          have g2 : ((d.toNat : Int) == 61) = false := beq_eq_false_iff_ne.2 (fun h => hbr (.inr (.inr (.inl (u8_is rfl h)))))
          have g3 : ((d.toNat : Int) == 32) = false := beq_eq_false_iff_ne.2 (fun h => hbr (.inr (.inr (.inr (u8_is rfl h)))))
          clear hbr hsv HE
          by_cases hk2 : k + 2 < l.length
          · have HD2 := hZ9 (List.drop_eq_getElem_cons hk2)
            generalize hfq : l[k + 2] = f at *
            have hq4 : ∀ h, (⟨l.toArray⟩ : ByteArray)[k + 2]'h = f := fun _ => hfq
            clear hfq
            have hk2z : decide ((l.length : Int) <= (k : Int) + 2) = false := decide_eq_false (by omega)
            have hk2y : (k : Int) + 2 < (l.length : Int) := by omega
            have hdd := fun w => hex_c d w
            have hdf := fun w => hex_c f w
            rcases RdS.hexI_cases d with ⟨hn, hv⟩ | ⟨x, hx, hxv, hx16⟩
            · rw [hv] at hdd
              have HN : Hid (RdS.readS l = none) := hZ9 (HNONE.out (by rw [HD.out, HC9.out, HD1.out, show k + 1 + 1 = k + 2 from rfl, HD2.out, RdS.readL_stroke_none1 _ HBF.out (.inl hn)]))
              clear hn hv hdf
              go_wp2_with fail
              refine (hspd _).mono ?_; rintro e w0 ⟨rfl, rfl⟩
              go_wp2_with fail
              refine (hdd _).mono ?_; rintro e w1 ⟨rfl, rfl⟩
              go_wp2_with fail
              go_ret2
              exact ValRet.none HN.out hb
            · rcases RdS.hexI_cases f with ⟨hn, hv⟩ | ⟨y, hy, hyv, hy16⟩
              · rw [hxv] at hdd
                rw [hv] at hdf
                have HN : Hid (RdS.readS l = none) := hZ9 (HNONE.out (by rw [HD.out, HC9.out, HD1.out, show k + 1 + 1 = k + 2 from rfl, HD2.out, RdS.readL_stroke_none1 _ HBF.out (.inr hn)]))
                have hx0 : decide ((x : Int) < 0) = false := decide_eq_false (by omega)
                clear hn hv hx hxv
                go_wp2_with fail
                refine (hspd _).mono ?_; rintro e w0 ⟨rfl, rfl⟩
                go_wp2_with fail
                refine (hdd _).mono ?_; rintro e w1 ⟨rfl, rfl⟩
                go_wp2_with fail
                refine (hdf _).mono ?_; rintro e w2 ⟨rfl, rfl⟩
                go_wp2_with fail
                go_ret2
                exact ValRet.none HN.out hb
              · have HE : Hid (RdS.readL (decide (k = 0)) (l.drop k) = (RdS.readL false (l.drop (k + 3))).map (UInt8.ofNat (16 * x + y) :: ·)) := hZ9 (by
                 rw [HD.out, HC9.out, HD1.out, show k + 1 + 1 = k + 2 from rfl, HD2.out, RdS.readL_stroke_hex _ HBF.out hx hy])
                obtain ⟨z, hz⟩ : ∃ z : UInt8, z = UInt8.ofNat (16 * x + y) := ⟨_, rfl⟩
                have hzn : (z.toNat : Int) = 16 * (x : Int) + (y : Int) := by rw [hz, UInt8.toNat_ofNat']; omega
                rw [<- hz] at HE
                have hz256 := z.toNat_lt
                have hmul : (16 : Int) * (x : Int) + (y : Int) = (z.toNat : Int) := hzn.symm
                have hwz : IntKind.u8.wrap (z.toNat : Int) = (z.toNat : Int) := by rw [IntKind.wrap_u8]; omega
                have hwi : IntKind.i64.wrap (z.toNat : Int) = (z.toNat : Int) := by rw [IntKind.wrap_i64]; omega
                have hwx : IntKind.i64.wrap (16 * (x : Int)) = 16 * (x : Int) := by rw [IntKind.wrap_i64]; omega
                have hx0 : decide ((x : Int) < 0) = false := decide_eq_false (by omega)
                have hy0 : decide ((y : Int) < 0) = false := decide_eq_false (by omega)
                have j1 : (0 : Int) <= (k : Int) + 1 := by omega
                have j2 : (0 : Int) <= (k : Int) + 2 := by omega
                have t1 : ((k : Int) + 1).toNat = k + 1 := by omega
                have t2 : ((k : Int) + 2).toNat = k + 2 := by omega
                have w1' : IntKind.i64.wrap ((k : Int) + 1) = (k : Int) + 1 := by rw [IntKind.wrap_i64]; omega
                have w2' : IntKind.i64.wrap ((k : Int) + 2) = (k : Int) + 2 := by rw [IntKind.wrap_i64]; omega
                clear hx hy hz hzn
                rw [hxv] at hdd
                rw [hyv] at hdf
                go_wp2_with fail
                refine (hspd _).mono ?_; rintro e w0 ⟨rfl, rfl⟩
                go_wp2_with fail
                refine (hdd _).mono ?_; rintro e w1 ⟨rfl, rfl⟩
                go_wp2_with fail
                refine (hdf _).mono ?_; rintro e w2 ⟨rfl, rfl⟩
                go_wp2_with fail
                have hown0 := hown
                clear hdd hdf hspd hown
                go_region_law (first
                 | (refine step_push (by rfl) _ _ (by rfl) w.heap.size _ acc (by rfl) (World.ownsRow.alloc hown0 _) wr.heap.size 1 (by rfl) z (by simp [go_sem, byteV]) (by omega) (by simp; omega) ?_; intro v' w2 hown2 hb2)
                 | (go_simp; go_at_call 221; refine (hex_c _ _).mono ?_; rintro e w1 ⟨rfl, rfl⟩))
                all_goals go_wp2_with fail
                all_goals go_roundw
                all_goals first | (simp [intOf]; omega) | exact HFIN.out (k + 3) z _ _ _ (by omega) (by omega) (by go_num) HE.out hown2 ((hb.drew.alloc hsz _).trans hb2)
          · have hk2z : (l.length : Int) <= (k : Int) + 2 := by omega
            have hnil : l.drop (k + 1 + 1) = [] := List.drop_of_length_le (by omega)
            have HN : Hid (RdS.readS l = none) := hZ9 (HNONE.out (by rw [HD.out, HC9.out, HD1.out, hnil, RdS.readL_stroke_none2 _ HBF.out]))
            clear hnil
            go_wp2_with fail
            refine (hspd _).mono ?_; rintro e w0 ⟨rfl, rfl⟩
            go_wp2_with fail
            go_ret2
            exact ValRet.none HN.out hb
      · have hk1z : decide ((k : Int) + 1 < (l.length : Int)) = false := decide_eq_false (by omega)
        have hk2z : (l.length : Int) <= (k : Int) + 2 := by omega
        have hnil : l.drop (k + 1) = [] := List.drop_of_length_le (by omega)
        have HN : Hid (RdS.readS l = none) := hZ9 (HNONE.out (by rw [HD.out, HC9.out, hnil, RdS.readL_stroke_none3]))
        clear hnil
        go_wp2_with fail
        go_ret2
        exact ValRet.none HN.out hb
    · have HC9 := hZ9 h92
      have e92 : ((c.toNat : Int) != 92) = true := by rw [bne_iff_ne]; exact fun h => HC9.out (u8_is rfl h)
      clear h92
      have hem : (l.drop (k + 1)).isEmpty = decide (k + 1 = l.length) := by rw [Bool.eq_iff_iff, List.isEmpty_iff, List.drop_eq_nil_iff, decide_eq_true_eq]; omega
      have HBAD : Hid (RdS.badC (decide (k = 0)) (decide (k + 1 = l.length)) c = true -> RdS.readS l = none) := hZ9 (fun h => HNONE.out (by rw [HD.out]; exact RdS.readL_bad HC9.out (by rw [hem]; exact h)))
      have HOK : Hid (RdS.badC (decide (k = 0)) (decide (k + 1 = l.length)) c = false -> RdS.readL (decide (k = 0)) (l.drop k) = (RdS.readL false (l.drop (k + 1))).map (c :: ·)) := hZ9 (fun h => by rw [HD.out]; exact RdS.readL_plain HC9.out (by rw [hem]; exact h))
      have el : ((k : Int) == (l.length : Int) - 1) = decide (k + 1 = l.length) := by rw [Bool.eq_iff_iff, beq_iff_eq, decide_eq_true_eq]; omega
      have HQB : Hid (∀ f last, RdS.badC f last c = (RdS.special c || c == 0 || (c == 32 && (f || last)) || (c == 35 && f))) := hZ9 (fun _ _ => rfl)
      have e0 : ((c.toNat : Int) == 0) = (c == 0) := by rw [Bool.eq_iff_iff, beq_iff_eq, beq_iff_eq]; exact ⟨fun h => u8_is rfl h, fun h => by rw [h]; rfl⟩
      have e32 : ((c.toNat : Int) == 32) = (c == 32) := by rw [Bool.eq_iff_iff, beq_iff_eq, beq_iff_eq]; exact ⟨fun h => u8_is rfl h, fun h => by rw [h]; rfl⟩
      have e35 : ((c.toNat : Int) == 35) = (c == 35) := by rw [Bool.eq_iff_iff, beq_iff_eq, beq_iff_eq]; exact ⟨fun h => u8_is rfl h, fun h => by rw [h]; rfl⟩
      have hspc := fun w => special_c c w
      have HFIN2 := hZ9 (fun out w2 => HFIN.out (k + 1) c out _ w2 (by omega) (by omega) rfl)
      clear hem
      generalize decide (k + 1 = l.length) = ql at *
      generalize decide (k = 0) = qf at *
      generalize RdS.special c = sv at *
      generalize (c == 0) = z0 at *
      generalize (c == 32) = z32 at *
      generalize (c == 35) = z35 at *
      cases sv
      case true =>
       have HN := hZ9 (HBAD.out (by rw [HQB.out]; rfl))
       go_wp2_with fail
       refine (hspc _).mono ?_; rintro e w1 ⟨rfl, rfl⟩
       go_wp2_with fail
       go_ret2
       exact ValRet.none HN.out hb
      cases z0
      case true =>
       have HN := hZ9 (HBAD.out (by rw [HQB.out]; rfl))
       go_wp2_with fail
       refine (hspc _).mono ?_; rintro e w1 ⟨rfl, rfl⟩
       go_wp2_with fail
       go_ret2
       exact ValRet.none HN.out hb
      cases z32 <;> cases z35 <;> cases qf <;> cases ql
      all_goals first
       | (have HN := hZ9 (HBAD.out (by rw [HQB.out]; rfl))
          go_wp2_with fail
          refine (hspc _).mono ?_; rintro e w1 ⟨rfl, rfl⟩
          go_wp2_with fail
          go_ret2
          exact ValRet.none HN.out hb)
       | (have HE := hZ9 (HOK.out (by rw [HQB.out]; rfl))
          go_wp2_with fail
          refine (hspc _).mono ?_; rintro e w1 ⟨rfl, rfl⟩
          go_wp2_with (at_builtin; refine push_bytes (by rfl) _ _ (by rfl) w.heap.size _ acc (by rfl) (hown.alloc _) wr.heap.size 1 1 (by rfl) [c] (by rfl) (by first | exact one_cell (by simp [go_sem, byteV]) | exact one_list _) (by omega) (by simp; omega) ?_)
          intro v' w2 hown2 hb2
          go_wp2_with fail
          go_roundw
          · first | exact HFIN2.out _ _ HE.out hown2 ((hb.alloc hsz _).trans hb2) | (simp [intOf]; omega)
          · first | exact HFIN2.out _ _ HE.out hown2 ((hb.alloc hsz _).trans hb2) | (simp [intOf]; omega))
  · have hnil : l.drop k = [] := List.drop_of_length_le (by omega)
    have HN : Hid (RdS.readS l = some acc) := hZ9 (by rw [HSP.out, hnil]; simp [RdS.readL])
    have hback := hown.back
    clear hnil
    go_wp2_with fail
    go_ret2
    exact ⟨by rw [HN.out]; rfl, hb⟩
end
end Go.Proofs.YtjmfknfponjgkaaGreatDoor
