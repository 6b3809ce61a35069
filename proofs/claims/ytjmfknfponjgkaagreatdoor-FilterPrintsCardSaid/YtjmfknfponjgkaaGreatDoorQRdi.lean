/- The walk of the program's 'Parse' of a part. Conditions: the text has at most 100000 bytes; the library's variables are laid. -/
import Derived.Lib.Strings
import Derived.Test.YtjmfknfponjgkaaGreatDoorQRda
import Derived.Test.YtjmfknfponjgkaaGreatDoorQRdf
import Derived.Test.YtjmfknfponjgkaaGreatDoorQSrx
namespace Go.Proofs.YtjmfknfponjgkaaGreatDoor
open Go.RowKit

namespace RdS
theorem index_name : ∀ p : List UInt8, (p.contains 61 = true → Lib.index p [61] = ((nameOf p).length : Int)) ∧ (p.contains 61 = false → Lib.index p [61] = -1)
  | [] => ⟨fun h => by simp at h, fun _ => by decide⟩
  | b :: p => by
    have ih := index_name p
    by_cases hb : b = 61
    · subst hb
      exact ⟨fun _ => by rw [RuS.index_cons_eq]; simp [nameOf], fun h => by simp at h⟩
    · have hc : (b :: p).contains 61 = p.contains 61 := by
        rw [List.contains_cons]
        have : ((61 : UInt8) == b) = false := by simpa using fun e => hb e.symm
        rw [this, Bool.false_or]
      have hn : nameOf (b :: p) = b :: nameOf p := by unfold nameOf; rw [List.takeWhile_cons, if_pos (by simpa using hb)]
      rw [hc, hn, RuS.index_cons_ne hb]
      refine ⟨fun h => ?_, fun h => ?_⟩
      · rw [ih.1 h, if_neg (by rw [beq_iff_eq]; omega)]; simp
      · rw [ih.2 h]; rfl
theorem nameOf_take (p : List UInt8) : p.take (nameOf p).length = nameOf p := by
  have h := List.takeWhile_append_dropWhile (p := fun b : UInt8 => b != 61) (l := p)
  have h2 : p = nameOf p ++ p.dropWhile (fun b : UInt8 => b != 61) := h.symm
  conv => lhs; rw [h2]
  rw [List.take_append_of_le_length (Nat.le_of_eq (by congr 1; rw [← h2]))]
  rw [← h2]; exact List.take_length
theorem cut_yes {p : List UInt8} (h : p.contains 61 = true) : Lib.cut p [61] = (nameOf p, p.drop ((nameOf p).length + 1), true) := by
  have hi := (index_name p).1 h
  unfold Lib.cut
  rw [hi, if_pos (by omega), Int.toNat_natCast, nameOf_take]; rfl
theorem cut_no {p : List UInt8} (h : p.contains 61 = false) : Lib.cut p [61] = (p, [], false) := by
  have hi := (index_name p).2 h
  unfold Lib.cut
  rw [hi, if_neg (by decide)]
theorem nameOf_len (p : List UInt8) : (nameOf p).length ≤ p.length := by
  have := congrArg List.length (nameOf_take p)
  rw [List.length_take] at this; omega
theorem readL_len : ∀ (l : List UInt8) (f : Bool) (v : List UInt8), readL f l = some v → v.length ≤ l.length := by
  intro l
  induction h : l.length using Nat.strongRecOn generalizing l with
  | _ n ih =>
    intro f v hv
    match l, h, hv with
    | [], h, hv => cases hv; simp
    | [c], h, hv =>
      unfold readL at hv
      split at hv
      · cases hv
      · cases hv; simp at h; simp; omega
    | c :: d :: r, h, hv =>
      have hd : (d :: r).length < n := by rw [← h]; simp
      have hr : r.length < n := by rw [← h]; simp; omega
      by_cases hc : c = 92
      · subst hc
        cases hb : bare1 d with
        | true =>
          rw [readL_stroke_bare f hb] at hv
          obtain ⟨u, hu, rfl⟩ := Option.map_eq_some_iff.1 hv
          have := ih _ hr r rfl false u hu
          simp only [List.length_cons] at h ⊢; omega
        | false =>
          match r, hr, h, hv with
          | [], hr, h, hv => rw [readL_stroke_none2 f hb] at hv; cases hv
          | e :: r, hr, h, hv =>
            cases h1 : hexOf d with
            | none => rw [readL_stroke_none1 f hb (.inl h1)] at hv; cases hv
            | some x =>
              cases h2 : hexOf e with
              | none => rw [readL_stroke_none1 f hb (.inr h2)] at hv; cases hv
              | some y =>
                rw [readL_stroke_hex f hb h1 h2] at hv
                obtain ⟨u, hu, rfl⟩ := Option.map_eq_some_iff.1 hv
                have hr2 : r.length < n := by rw [← h]; simp; omega
                have := ih _ hr2 r rfl false u hu
                simp only [List.length_cons] at h ⊢; omega
      · cases hb : badC f (d :: r).isEmpty c with
        | true => rw [readL_bad hc hb] at hv; cases hv
        | false =>
          rw [readL_plain hc hb] at hv
          obtain ⟨u, hu, rfl⟩ := Option.map_eq_some_iff.1 hv
          have := ih _ hd (d :: r) rfl false u hu
          simp only [List.length_cons] at h this ⊢; omega
theorem readS_len {l v : List UInt8} (h : readS l = some v) : v.length ≤ l.length := readL_len l true v h
end RdS
def PartRet (l : List UInt8) (w : World) (e : Ending) (w' : World) : Prop := ∃ v, e = .returned (.tuple #[v, .int .i64 (RdS.partS l).2]) ∧ AvasIn w' v (RdS.partS l).1 ∧ Below w.heap.size w w'
theorem PartRet.none {l : List UInt8} {w w' : World} (h : RdS.partS l = ([], 2)) (hb : Below w.heap.size w w') : PartRet l w (.returned (.tuple #[.slice none 0 0, .int .i64 2])) w' := by
  refine ⟨.slice Option.none 0 0, ?_, ?_, hb⟩
  · rw [h]
  · rw [h]; exact AvasIn.empty w'
def PartRetF (T : TypeId) (l : List UInt8) (w : World) (e : Ending) (w' : World) : Prop := ∃ v, e = .returned (.tuple #[v, .int .i64 (RdS.partS l).2]) ∧ AvasIn w' v (RdS.partS l).1 ∧ Below w.heap.size w w' ∧ Tag T w' v
theorem PartRetF.plain {l : List UInt8} {w w' : World} {e : Ending} {T : TypeId} (h : PartRetF T l w e w') : PartRet l w e w' := by
  obtain ⟨v, h1, h2, h3, _⟩ := h; exact ⟨v, h1, h2, h3⟩
theorem PartRetF.none {T : TypeId} {l : List UInt8} {w w' : World} (h : RdS.partS l = ([], 2)) (hb : Below w.heap.size w w') : PartRetF T l w (.returned (.tuple #[.slice Option.none 0 0, .int .i64 2])) w' := by
  refine ⟨.slice Option.none 0 0, ?_, ?_, hb, Tag.nil _ _ _ _⟩
  · rw [h]
  · rw [h]; exact AvasIn.empty w'
def ParseLoop (ps : List (List UInt8)) (w0 : World) (out i : Value) (wr : World) : Prop :=
  ∃ (k : Nat) (qs : List RdS.Pr), k ≤ ps.length ∧ i = .int .i64 k ∧ OwnA 190 wr w0.heap.size out qs ∧ qs.length = k ∧ RdS.pairsS (ps.take k) = some qs ∧ (∀ q ∈ qs, q.1.length ≤ 17 ∧ q.2.length ≤ 1000000) ∧ Below w0.heap.size w0 wr
theorem pairsS_step {ps : List (List UInt8)} {k : Nat} (h : k < ps.length) {qs : List RdS.Pr} (hq : RdS.pairsS (ps.take k) = some qs) {a : RdS.Pr} (ha : RdS.pairS ps[k] = some a) : RdS.pairsS (ps.take (k + 1)) = some (qs ++ [a]) := by
  rw [List.take_succ_eq_append_getElem h, RdS.pairsS_snoc, hq, ha]
theorem partS_none {l : List UInt8} {k : Nat} {ps : List (List UInt8)} (hps : RdS.splitE 43 l = ps) (h : k < ps.length) (ha : RdS.pairS ps[k] = none) : RdS.partS l = ([], 2) := by
  unfold RdS.partS
  rw [hps, RdS.pairsS_none (List.getElem_mem h) ha]

theorem infoAva : (Tryz.prog.info? 190).map (fun i => (i.zero, i.size, i.bytes)) = some (some (.agg #[.string ⟨#[]⟩, .string ⟨#[]⟩]), 2, 32) := by kernel_rfl
set_option maxRecDepth 100000 in
/-- more than three pairs are no part, whatever they are -/
theorem formed_long (a : Option Addr) (n c : Nat) (w : World) (hn : 3 < n) (hl : n ≤ 1000000) : Calls Tryz.prog 159 #[.slice a n c] w fun e w' => e = .returned (.bool false) ∧ w = w' := by
  have hz : ((n : Int) == 0) = false := beq_eq_false_iff_ne.2 (by omega)
  have hz3 : (3 : Int) < (n : Int) := by omega
  go_enter Tryz.func159, Tryz.ntmps159
  go_wp2_with fail
  go_ret
  exact ⟨rfl, rfl⟩
set_option maxRecDepth 100000 in
set_option maxHeartbeats 8000000 in
theorem rdparse_f (l : List UInt8) (hl : l.length ≤ 100000) (w : World) (hE : Env w) : Calls Tryz.prog 158 #[.string ⟨l.toArray⟩] w (PartRetF 190 l w) := by
  have hsp := rdsplit_c l 43 (by omega) (by decide) w
  unfold SplitRet at hsp
  have hsl := RdS.splitE_len (sep := 43) l
  have hsm := RdS.splitE_small (sep := 43) l
  obtain ⟨p0, ps0, hne⟩ := RdS.splitE_ne 43 l
  have HNE : Hid (1 ≤ (RdS.splitE 43 l).length) := Lib.hid (by rw [hne]; simp)
  clear hne
  obtain ⟨ps, hps⟩ : ∃ ps, RdS.splitE 43 l = ps := ⟨_, rfl⟩
  rw [hps] at hsp hsl hsm HNE
  have HPS := Lib.hid hps
  have HSM := Lib.hid hsm
  clear hps hsm
  go_enter Tryz.func158, Tryz.ntmps158
  go_wp2_with fail
  refine hsp.mono ?_
  rintro e w0 ⟨v, rfl, hv, hb0⟩
  obtain ⟨a, c, rfl, hc, hcase⟩ := hv
  generalize hn : ps.length = n at *
  have HN := Lib.hid hn
  have hE0 := hE.below hb0
  rcases hcase with rfl | ⟨g, o, rfl, hg, hcell⟩
  · simp at hn; exact absurd HNE.out (by rw [← hn]; simp)
  have HCELL := Lib.hid hcell
  clear hn hcell hsp
  go_wp2_with fail
  go_loopw [4, 17] (fun out i wr => ParseLoop ps w0 out i wr) (fun _ i _ => n - (intOf i).toNat)
  case atStart => exact ⟨0, [], Nat.zero_le _, rfl, OwnA.empty _ _ _, rfl, rfl, by simp, Below.refl _ _⟩
  case round =>
    obtain ⟨k, qs, hk, rfl, hown, hql, hq, hqs, hb⟩ := hrel
    rw [HN.out] at hk
    have hsz := hb.size
    have hb00 : Below w.heap.size w wr := hb0.trans (hb.mono hb0.size)
    have hEr := hE.below hb00
    by_cases hlt : k < n
    · have hlt2 : k < ps.length := by rw [HN.out]; exact hlt
      have hcx : wr.cell? ⟨g, o + k, none⟩ = some (strV ps[k]) := (hb.cell (p := ⟨g, o + k, none⟩) hg).trans (HCELL.out k _ (List.getElem?_eq_getElem hlt2))
      have hpl := HSM.out ps[k] (List.getElem_mem hlt2)
      have HNO := Lib.hid (partS_none HPS.out hlt2)
      have HYES := Lib.hid (fun (a : RdS.Pr) => pairsS_step hlt2 hq (a := a))
      have HQS := Lib.hid hqs
      generalize ps[k] = p at *
      unfold strV at hcx
      clear hq hlt2 hqs
      obtain ⟨m, hm⟩ := hEr.maxLen
      have hcut := Tryz.strings_Cut ⟨p.toArray⟩ ⟨#[61]⟩ m wr (by show p.toArray.size < _; rw [List.size_toArray]; omega) hm
      have dp : (⟨p.toArray⟩ : ByteArray).data.toList = p := rfl
      have d61 : (⟨#[61]⟩ : ByteArray).data.toList = [61] := rfl
      rw [dp, d61] at hcut
      clear dp d61 hm
      have hty := fun (nm : List UInt8) (h : nm.length ≤ 1000000) w => type_c ⟨nm.toArray⟩ (by show nm.toArray.size ≤ _; rw [List.size_toArray]; omega) w
      unfold TypeRet at hty
      cases h61 : p.contains 61 with
      | false =>
        rw [RdS.cut_no h61] at hcut
        have HN2 : Hid (RdS.partS l = ([], 2)) := Lib.hid (HNO.out (by unfold RdS.pairS; rw [h61]; rfl))
        clear h61 HNO
        have ht := fun w => hty p (by omega) w
        clear hty
        generalize RuS.typeOf (⟨p.toArray⟩ : ByteArray).data.toList = ty at *
        have hvl := fun w => value_c [] (by simp) w
        unfold ValRet at hvl
        go_wp2_with fail
        refine hcut.mono ?_; rintro e w1 ⟨rfl, nd, rfl⟩
        go_wp2_with fail
        refine (ht _).mono ?_; rintro e w2 ⟨rfl, hb2⟩
        go_wp2_with fail
        refine (hvl _).mono ?_; rintro e w3 ⟨rfl, hb3⟩
        go_wp2_with fail
        go_ret2
        exact PartRetF.none HN2.out (hb00.trans ((below_trans (below_drewN wr nd) (below_trans hb2 hb3)).mono hb00.size))
      | true =>
        rw [RdS.cut_yes h61] at hcut
        have HP : Hid (RdS.pairS p = if (RuS.typeOf (RdS.nameOf p)).1 = [] then none else (RdS.readS (p.drop ((RdS.nameOf p).length + 1))).map ((RuS.typeOf (RdS.nameOf p)).1, ·)) := Lib.hid (by unfold RdS.pairS; rw [h61]; rfl)
        have hnl := RdS.nameOf_len p
        have hrl : (p.drop ((RdS.nameOf p).length + 1)).length ≤ p.length := by rw [List.length_drop]; omega
        have ht := fun w => hty (RdS.nameOf p) (by omega) w
        have dn : (⟨(RdS.nameOf p).toArray⟩ : ByteArray).data.toList = RdS.nameOf p := rfl
        rw [dn] at ht
        have hta := RuS.typeM_all (RuS.lower (RdS.nameOf p))
        have hta2 : (RuS.typeOf (RdS.nameOf p)).1.length ≤ 17 := by
          rcases hta with e | e
          · have : RuS.typeOf (RdS.nameOf p) = ([], 0) := e
            rw [this]; simp
          · exact e.2.2.2
        have hvl := fun w => value_c (p.drop ((RdS.nameOf p).length + 1)) (by omega) w
        have hvn := fun v => RdS.readS_len (l := p.drop ((RdS.nameOf p).length + 1)) (v := v)
        clear h61 dn hta hty hnl
        unfold ValRet at hvl
        generalize p.drop ((RdS.nameOf p).length + 1) = rest at *
        generalize RuS.typeOf (RdS.nameOf p) = ty at *
        generalize RdS.nameOf p = nm at *
        obtain ⟨t, sy⟩ := ty
        simp only at ht hta2
        have HRL := Lib.hid hrl
        have HVN := Lib.hid hvn
        clear hrl hvn
        cases hr : RdS.readS rest with
        | none =>
          rw [hr] at hvl
          have HN2 : Hid (RdS.partS l = ([], 2)) := Lib.hid (HNO.out (by rw [HP.out, hr]; split <;> rfl))
          clear hr HNO HYES
          go_wp2_with fail
          refine hcut.mono ?_; rintro e w1 ⟨rfl, nd, rfl⟩
          go_wp2_with fail
          refine (ht _).mono ?_; rintro e w2 ⟨rfl, hb2⟩
          go_wp2_with fail
          refine (hvl _).mono ?_; rintro e w3 ⟨rfl, hb3⟩
          go_wp2_with fail
          go_ret2
          exact PartRetF.none HN2.out (hb00.trans ((below_trans (below_drewN wr nd) (below_trans hb2 hb3)).mono hb00.size))
        | some v =>
          rw [hr] at hvl
          have hvlen := HVN.out v hr
          have HR := Lib.hid hr
          have hv2 : v.length ≤ 1000000 := by have := HRL.out; omega
          clear hr
          cases hem : t.isEmpty with
          | true =>
            have HN2 : Hid (RdS.partS l = ([], 2)) := Lib.hid (HNO.out (by rw [HP.out, if_pos (by simpa using hem)]))
            have HEM := Lib.hid hem
            go_wp2_with fail
            refine hcut.mono ?_; rintro e w1 ⟨rfl, nd, rfl⟩
            go_wp2_with fail
            refine (ht _).mono ?_; rintro e w2 ⟨rfl, hb2⟩
            go_wp2_with fail
            refine (hvl _).mono ?_; rintro e w3 ⟨rfl, hb3⟩
            go_wp2_with fail
            go_ret2
            exact PartRetF.none HN2.out (hb00.trans ((below_trans (below_drewN wr nd) (below_trans hb2 hb3)).mono hb00.size))
          | false =>
            have HY2 := Lib.hid (HYES.out (t, v) (by rw [HP.out, if_neg (by simpa using hem), HR.out]; rfl))
            obtain ⟨i0, hi, hz0, hz1, hz2⟩ := info_parts infoAva
            have HI := Lib.hid hi
            have HOWN := Lib.hid hown
            have hq1 : qs.length ≤ 1000001 := by omega
            clear HNO HYES hi hown
            go_wp2_with fail
            refine hcut.mono ?_; rintro e w1 ⟨rfl, nd, rfl⟩
            go_wp2_with fail
            refine (ht _).mono ?_; rintro e w2 ⟨rfl, hb2⟩
            go_wp2_with fail
            refine (hvl _).mono ?_; rintro e w3 ⟨rfl, hb3⟩
            have hbx : Below wr.heap.size wr w3 := below_trans (below_drewN wr nd) (below_trans hb2 hb3)
            have hszx := hbx.size
            go_wp2_with (at_builtin; refine push_ava 190 155 Tryz.underlying155 HI.out hz0 hz1 hz2 (by rfl) (by rfl) _ _ (by rfl) w0.heap.size _ qs (by rfl) ((HOWN.out.call hbx).alloc _) w3.heap.size (by rfl) (t, v) ?e1 ?e2 ?e3 ?e4 ?_)
            case e1 => simp [go_sem, strV]
            case e2 => simp [go_sem, strV]
            case e3 => omega
            case e4 => simp; omega
            intro v' w4 hown4 hb4
            go_wp2_with fail
            go_roundw
            case rel =>
              refine ⟨k + 1, qs ++ [(t, v)], by rw [HN.out]; omega, by go_num, hown4, by simp [hql], HY2.out, ?_, (hb.trans (hbx.mono hsz)).alloc (by omega) _ |>.trans hb4⟩
              intro q hq
              rcases List.mem_append.1 hq with hq | hq
              · exact HQS.out q hq
              · have := List.mem_singleton.1 hq; subst this; exact ⟨hta2, hv2⟩
            case measure => simp [intOf]; omega
    · have hkn : k = n := by omega
      subst hkn
      have hall : ps.take k = ps := List.take_of_length_le (by rw [HN.out]; omega)
      rw [hall] at hq
      have HPT : Hid (RdS.partS l = if RdS.formedS (RdS.sortS qs) then (RdS.sortS qs, 0) else ([], 2)) := Lib.hid (by unfold RdS.partS; rw [HPS.out, hq])
      have hpos : qs ≠ [] := by intro h; have := HNE.out; rw [← hql, h] at this; simp at this
      have hsrt := sort_c w0.heap.size _ qs wr hown hpos (by omega)
      unfold SortRet at hsrt
      obtain ⟨a, cp, rfl⟩ := hown.form
      rw [hql] at hsrt
      have HQS := Lib.hid hqs
      clear hall hq hown hqs
      go_wp2_with fail
      refine hsrt.mono ?_
      rintro e w1 ⟨rfl, hb1, ys, hyl, hav, hyp, htg⟩
      have HTG := Lib.hid htg
      clear htg
      have hb2 : Below w.heap.size w w1 := hb00.trans (hb1.mono hb0.size)
      have HYP := Lib.hid hyp
      clear hyp hsrt
      by_cases h20 : k < 20
      · obtain ⟨hp1, hp2⟩ := HYP.out h20
        have hss := RdS.sort_same hp1 hp2
        have hfit : PairsFit ys := fun q hq => by
          have := HQS.out q (hp1.mem_iff.1 hq)
          omega
        have hfm := formed_any _ ys w1 hav hfit (hE.below hb2)
        unfold FmRet at hfm
        have HSS := Lib.hid hss
        have HAV := Lib.hid hav
        clear hp1 hp2 hss hfit hav
        cases hfd : RdS.formedS ys with
        | true =>
          have HFD := Lib.hid hfd
          rw [hfd] at hfm
          clear hfd
          go_wp2_with fail
          refine hfm.mono ?_; rintro e w2 ⟨rfl, hb3⟩
          go_wp2_with fail
          go_ret2
          have e1 : RdS.partS l = (ys, 0) := by rw [HPT.out, ← HSS.out.1, if_pos HFD.out, HSS.out.2 HFD.out]
          exact ⟨_, by rw [e1]; rfl, by rw [e1]; exact HAV.out.call hb3 (Nat.le_refl _), hb2.trans (hb3.mono hb2.size), HTG.out.call hb3⟩
        | false =>
          have HFD := Lib.hid hfd
          rw [hfd] at hfm
          clear hfd
          go_wp2_with fail
          refine hfm.mono ?_; rintro e w2 ⟨rfl, hb3⟩
          go_wp2_with fail
          go_ret2
          exact PartRetF.none (by rw [HPT.out, ← HSS.out.1, if_neg (by rw [HFD.out]; decide)]) (hb2.trans (hb3.mono hb2.size))
      · have hfm := formed_long a k cp w1 (by omega) (by omega)
        have HFD : Hid (RdS.formedS (RdS.sortS qs) = false) := Lib.hid (by
          unfold RdS.formedS; rw [RdS.sortS_length, hql, decide_eq_false (show ¬ k ≤ 3 by omega)]; simp)
        clear hav
        go_wp2_with fail
        refine hfm.mono ?_; rintro e w2 ⟨rfl, rfl⟩
        go_wp2_with fail
        go_ret2
        exact PartRetF.none (by rw [HPT.out, if_neg (by rw [HFD.out]; decide)]) hb2
end Go.Proofs.YtjmfknfponjgkaaGreatDoor
