/- The walk of the document's 'Parse' of a name. Conditions: as stated. -/
import Derived.Laws.ResultCell
import Derived.Test.YtjmfknfponjgkaaGreatDoorJRdl
import Derived.Test.YtjmfknfponjgkaaGreatDoorJSrx
import Derived.Test.YtjmfknfponjgkaaGreatDoorJRuS
import Derived.Test.YtjmfknfponjgkaaGreatDoorJRdi
set_option maxRecDepth 100000
set_option maxHeartbeats 4000000
namespace Go.Proofs.YtjmfknfponjgkaaGreatDoor
section
open Go.RowKit
namespace DnS
open RdS
theorem partsS_snoc : ∀ (ps : List (List UInt8)) (p : List UInt8), partsS (ps ++ [p]) = (partsS ps).bind fun l => if (partS p).2 = 0 then some (l ++ [(partS p).1]) else none
 | [], p => by
  show partsS [p] = _
  unfold partsS
  split <;> simp [partsS, *]
 | q :: ps, p => by
  rw [List.cons_append]
  unfold partsS
  rw [partsS_snoc ps p]
  by_cases hq : (partS q).2 = 0
  · rw [if_pos hq, if_pos hq]
    cases partsS ps with
    | none => rfl
    | some l => by_cases hp : (partS p).2 = 0 <;> simp [hp]
  · rw [if_neg hq, if_neg hq]; rfl
theorem partsS_no : ∀ {ps : List (List UInt8)} {p : List UInt8}, p ∈ ps -> (partS p).2 ≠ 0 -> partsS ps = none
 | q :: ps, p, h, hp => by
  unfold partsS
  rcases List.mem_cons.1 h with rfl | h
  · rw [if_neg hp]
  · split
    · rw [partsS_no h hp]; rfl
    · rfl
theorem partsS_step {ps : List (List UInt8)} {k : Nat} (h : k < ps.length) {ls : List (List Pr)} (hq : partsS (ps.take k) = some ls) (h0 : (partS ps[k]).2 = 0) : partsS (ps.take (k + 1)) = some (ls ++ [(partS ps[k]).1]) := by
 rw [List.take_succ_eq_append_getElem h, partsS_snoc, hq]
 simp [h0]
end DnS
def NameRet (l : List UInt8) (w : World) (e : Ending) (w' : World) : Prop := ∃ v, e = .returned (.tuple #[v, .int .i64 (DnS.nameS l).2]) /\ AvssIn w' v (DnS.nameS l).1 /\ Below w.heap.size w w'
theorem NameRet.none {l : List UInt8} {w w' : World} {e : Int} (h : DnS.nameS l = ([], e)) (hb : Below w.heap.size w w') : NameRet l w (.returned (.tuple #[.slice none 0 0, .int .i64 e])) w' := by
 refine ⟨.slice Option.none 0 0, ?_, ?_, hb⟩
 · rw [h]
 · rw [h]; exact AvssIn.empty w'
def RNameLoop (ps : List (List UInt8)) (w0 : World) (out i : Value) (wr : World) : Prop :=
 ∃ (k : Nat) (ls : List (List RdS.Pr)), k <= ps.length /\ i = .int .i64 k /\ OwnSS 175 209 wr w0.heap.size out ls /\ ls.length = k /\ DnS.partsS (ps.take k) = some ls /\ Below w0.heap.size w0 wr
theorem infoAvas2 : (Tryz.prog.info? 175).map (fun i => (i.zero, i.size, i.bytes)) = some (some (.slice none 0 0), 1, 24) := by kernel_rfl
theorem name_many {l : List UInt8} {ps : List (List UInt8)} (h1 : ¬ 1000 < l.length) (h0 : l ≠ []) (hps : RdS.splitE 44 l = ps) (hn : 12 < ps.length) : DnS.nameS l = ([], 4) := by
 unfold DnS.nameS; rw [if_neg h1, if_neg h0, hps, if_pos hn]
theorem name_no {l : List UInt8} {ps : List (List UInt8)} (h1 : ¬ 1000 < l.length) (h0 : l ≠ []) (hps : RdS.splitE 44 l = ps) (hn : ¬ 12 < ps.length) (h : DnS.partsS ps = none) : DnS.nameS l = ([], 2) := by
 unfold DnS.nameS; rw [if_neg h1, if_neg h0, hps, if_neg hn, h]
theorem name_yes {l : List UInt8} {ps : List (List UInt8)} (h1 : ¬ 1000 < l.length) (h0 : l ≠ []) (hps : RdS.splitE 44 l = ps) (hn : ¬ 12 < ps.length) {ls : List (List RdS.Pr)} (h : DnS.partsS ps = some ls) : DnS.nameS l = (ls, 0) := by
 unfold DnS.nameS; rw [if_neg h1, if_neg h0, hps, if_neg hn, h]
theorem refname_c (l : List UInt8) (hl : l.length <= 1000000) (w : World) (hE : Env w) : Calls Tryz.prog 147 #[.string ⟨l.toArray⟩] w (NameRet l w) := by
 by_cases h1 : 1000 < l.length
 · have hz : (1000 : Int) < (l.length : Int) := by omega
   have HN : Hid (DnS.nameS l = ([], 4)) := hZ9 (by unfold DnS.nameS; rw [if_pos h1])
   clear h1
   go_enter Tryz.func147, Tryz.ntmps147
   go_wp2_with fail
   go_ret2
   exact NameRet.none HN.out (Below.refl _ _)
 have hz : decide ((1000 : Int) < (l.length : Int)) = false := decide_eq_false (by omega)
 by_cases h0 : l = []
 · subst h0
   have HN : Hid (DnS.nameS [] = ([], 0)) := hZ9 rfl
   go_enter Tryz.func147, Tryz.ntmps147
   go_wp2_with fail
   go_ret2
   exact NameRet.none HN.out (Below.refl _ _)
 have hem : l.isEmpty = false := by simpa using h0
 have hsp := refsplit_c l 44 (by omega) (by decide) w
 unfold SplitRet at hsp
 have hsm := RdS.splitE_small (sep := 44) l
 obtain ⟨ps, hps⟩ : ∃ ps, RdS.splitE 44 l = ps := ⟨_, rfl⟩
 rw [hps] at hsp hsm
 have hlt1 : l.length <= 1000 := by omega
 have HMANY := hZ9 (name_many h1 h0 hps)
 have HNONE := hZ9 (name_no h1 h0 hps)
 have HSOME := hZ9 (fun hn ls h => name_yes h1 h0 hps hn (ls := ls) h)
 have HSM := hZ9 hsm
 have HNE : Hid (ps ≠ []) := hZ9 (by
  obtain ⟨p0, ps0, hne⟩ := RdS.splitE_ne 44 l
  rw [<- hps, hne]; simp)
 clear hps hsm h0 h1
 go_enter Tryz.func147, Tryz.ntmps147
 go_wp2_with fail
 refine hsp.mono ?_
 rintro e w0 ⟨v, rfl, hv, hb0⟩
 obtain ⟨a, c, rfl, hc, hcase⟩ := hv
 generalize hn : ps.length = n at *
 have HN := hZ9 hn
 have hE0 := hE.below hb0
 by_cases hn12 : 12 < n
 · have h3 : (12 : Int) < (n : Int) := by omega
   have HNO := hZ9 (HMANY.out hn12)
   clear hn HMANY HNONE HSOME
   go_wp2_with fail
   go_ret2
   exact NameRet.none HNO.out hb0
 have h3 : decide ((12 : Int) < (n : Int)) = false := decide_eq_false (by omega)
 have HNONE2 := hZ9 (HNONE.out hn12)
 have HSOME2 := hZ9 (HSOME.out hn12)
 rcases hcase with rfl | ⟨g, o, rfl, hg, hcell⟩
 · exact absurd rfl HNE.out
 have HCELL := hZ9 hcell
 clear hn hcell hsp HMANY HNONE HSOME
 go_wp2_with fail
 go_loopw [5, 21] (fun out i wr => RNameLoop ps w0 out i wr) (fun _ i _ => n - (intOf i).toNat)
 case atStart => exact ⟨0, [], Nat.zero_le _, rfl, OwnSS.empty _ _ _ _, rfl, rfl, Below.refl _ _⟩
 case round =>
  obtain ⟨k, ls, hk, rfl, hown, hll, hq, hb⟩ := hrel
  rw [HN.out] at hk
  have hsz := hb.size
  have hb00 : Below w.heap.size w wr := hb0.trans (hb.mono hb0.size)
  have hEr := hE.below hb00
  by_cases hlt : k < n
  · have hlt2 : k < ps.length := by rw [HN.out]; exact hlt
    have hcx : wr.cell? ⟨g, o + k, none⟩ = some (strV ps[k]) := (hb.cell (p := ⟨g, o + k, none⟩) hg).trans (HCELL.out k _ (List.getElem?_eq_getElem hlt2))
    have hpl := HSM.out ps[k] (List.getElem_mem hlt2)
    have HNO := hZ9 (fun h => HNONE2.out (DnS.partsS_no (List.getElem_mem hlt2) h))
    have HYES := hZ9 (DnS.partsS_step hlt2 hq)
    generalize ps[k] = p at *
    unfold strV at hcx
    clear hq hlt2
    have hpp := refpart_f p (by omega) wr hEr
    unfold PartRetF at hpp
    have hpn := RdS.part_none (s := p)
    generalize RdS.partS p = P at *
    obtain ⟨xs, e0⟩ := P
    simp only at hpp hpn HNO HYES
    have HOWN := hZ9 hown
    clear hown
    by_cases he : e0 = 0
    · subst he
      have HY2 := hZ9 (HYES.out rfl)
      clear HYES HNO hpn
      obtain ⟨i0, hi, hz0, hz1, hz2⟩ := info_parts infoAvas2
      have HI := hZ9 hi
      clear hi
      go_wp2_with fail
      refine hpp.mono ?_
      rintro e w1 ⟨v, rfl, hav, hb1, htg⟩
      obtain ⟨a1, c1, rfl, hc1⟩ : ∃ a1 c1, v = .slice a1 xs.length c1 /\ True := by
       obtain ⟨a1, c1, e, _⟩ := hav
       exact ⟨a1, c1, e, trivial⟩
      have hown1 := HOWN.out.call hb1
      have hsz1 := hb1.size
      go_wp2_with (at_builtin; refine push_avs 175 209 172 (by decide) Tryz.underlying172 HI.out hz0 hz1 hz2 (by rfl) _ _ (by rfl) w0.heap.size _ ls (by rfl) (hown1.call (grow1 w1 _)) w1.heap.size (by rfl) (.slice a1 xs.length c1) (by rfl) xs ?e1 (hav.call (grow1 w1 _) (Nat.le_refl _)) (htg.call (grow1 w1 _)) ?e3 ?e4 ?_)
      case e1 => simp [go_sem]
      case e3 => omega
      case e4 => simp; omega
      intro v' w4 hown4 hb4 _
      go_wp2_with fail
      go_roundw
      case rel => exact ⟨k + 1, ls ++ [xs], by rw [HN.out]; omega, by go_num, hown4, by simp [hll], HY2.out, ((hb.trans (hb1.mono hsz)).alloc (by omega) _).trans hb4⟩
      case measure => simp [intOf]; omega
    · have h2 := hpn he
      rw [Prod.mk.injEq] at h2
      obtain ⟨rfl, rfl⟩ := h2
      have HN2 := hZ9 (HNO.out he)
      clear HYES HNO hpn he
      go_wp2_with fail
      refine hpp.mono ?_
      rintro e w1 ⟨v, rfl, hav, hb1, htg⟩
      go_wp2_with fail
      go_ret2
      exact NameRet.none HN2.out (hb00.trans (hb1.mono hb00.size))
  · have hkn : k = n := by omega
    subst hkn
    have hall : ps.take k = ps := List.take_of_length_le (by rw [HN.out]; omega)
    rw [hall] at hq
    have HS := hZ9 (HSOME2.out ls hq)
    have HAV := hZ9 hown.avss
    clear hall hq hown
    go_wp2_with fail
    go_ret2
    exact ⟨_, by rw [HS.out]; rfl, by rw [HS.out]; exact HAV.out, hb00⟩
end
section
open Go.RowKit
def NameRetP (l : List UInt8) (w : World) (e : Ending) (w' : World) : Prop := ∃ v, e = .returned (.tuple #[.agg #[v], .int .i64 (DnS.nameS l).2]) /\ AvssIn w' v (DnS.nameS l).1 /\ Below w.heap.size w w'
theorem NameRetP.none {l : List UInt8} {w w' : World} {e : Int} (h : DnS.nameS l = ([], e)) (hb : Below w.heap.size w w') : NameRetP l w (.returned (.tuple #[.agg #[.slice none 0 0], .int .i64 e])) w' := by
 refine ⟨.slice Option.none 0 0, ?_, ?_, hb⟩
 · rw [h]
 · rw [h]; exact AvssIn.empty w'
def PNameLoop (ps : List (List UInt8)) (w w0 : World) (b : Nat) (i : Value) (wr : World) : Prop :=
 ∃ (k : Nat) (ls : List (List RdS.Pr)) (a : Option Addr) (c : Nat), k <= ps.length /\ i = .int .i64 k /\ OwnSS 155 190 wr (b + 1) (.slice a k c) ls /\ ls.length = k /\ DnS.partsS (ps.take k) = some ls /\
  Whole wr b 152 #[.slice a k c] /\ Whole wr w.heap.size 152 #[.slice none 0 0] /\ Below w.heap.size w wr /\ Below w0.heap.size w0 wr
theorem infoAvas1 : (Tryz.prog.info? 155).map (fun i => (i.zero, i.size, i.bytes)) = some (some (.slice none 0 0), 1, 24) := by kernel_rfl
theorem dnparse_c (l : List UInt8) (hl : l.length <= 1000000) (w : World) (hE : Env w) : Calls Tryz.prog 129 #[.string ⟨l.toArray⟩] w (NameRetP l w) := by
 have hwh := Whole.made w 152 #[.slice none 0 0]
 have hbw : Below w.heap.size w (w.alloc (.cells #[.slice none 0 0] 152)) := grow1 w _
 by_cases h1 : 1000 < l.length
 · have hz : (1000 : Int) < (l.length : Int) := by omega
   have HN : Hid (DnS.nameS l = ([], 4)) := hZ9 (by unfold DnS.nameS; rw [if_pos h1])
   clear h1
   go_enter Tryz.func129, Tryz.ntmps129
   go_wp2_with fail
   (try simp only [Exit.inBlock, Exit.then])
   refine bodyPost_ret (v := .tuple #[.agg #[.slice none 0 0], .int .i64 4]) ?_ rfl (NameRetP.none HN.out hbw)
   rw [results_cell_tmp rfl]
   go_simp
 have hz : decide ((1000 : Int) < (l.length : Int)) = false := decide_eq_false (by omega)
 by_cases h0 : l = []
 · subst h0
   have HN : Hid (DnS.nameS [] = ([], 0)) := hZ9 rfl
   go_enter Tryz.func129, Tryz.ntmps129
   go_wp2_with fail
   (try simp only [Exit.inBlock, Exit.then])
   refine bodyPost_ret (v := .tuple #[.agg #[.slice none 0 0], .int .i64 0]) ?_ rfl (NameRetP.none HN.out hbw)
   rw [results_cell_tmp rfl]
   go_simp
 have hem : l.isEmpty = false := by simpa using h0
 have hsp := fun w => rdsplit_c l 44 (by omega) (by decide) w
 unfold SplitRet at hsp
 have hsm := RdS.splitE_small (sep := 44) l
 obtain ⟨ps, hps⟩ : ∃ ps, RdS.splitE 44 l = ps := ⟨_, rfl⟩
 rw [hps] at hsp hsm
 have hlt1 : l.length <= 1000 := by omega
 have HMANY := hZ9 (name_many h1 h0 hps)
 have HNONE := hZ9 (name_no h1 h0 hps)
 have HSOME := hZ9 (fun hn ls h => name_yes h1 h0 hps hn (ls := ls) h)
 have HSM := hZ9 hsm
 have HNE : Hid (ps ≠ []) := hZ9 (by
  obtain ⟨p0, ps0, hne⟩ := RdS.splitE_ne 44 l
  rw [<- hps, hne]; simp)
 clear hps hsm h0 h1
 generalize hws : w.alloc (.cells #[.slice none 0 0] 152) = ws at *
 go_enter Tryz.func129, Tryz.ntmps129
 go_wp2_with fail
 (try simp only [hws])
 refine (hsp ws).mono ?_
 rintro e w0 ⟨v, rfl, hv, hb0⟩
 clear hws
 have hb00 : Below w.heap.size w w0 := hbw.trans (hb0.mono hbw.size)
 have hwh0 := hwh.call hb0
 obtain ⟨a, c, rfl, hc, hcase⟩ := hv
 generalize hn : ps.length = n at *
 have HN := hZ9 hn
 have hc0 : w0.cell? ⟨w.heap.size, 0, none⟩ = some (.slice none 0 0) := hwh0.cell 0
 have hf0 : w0.frozen? ⟨w.heap.size, 0, none⟩ = false := hwh0.thaw 0
 by_cases hn12 : 12 < n
 · have h3 : (12 : Int) < (n : Int) := by omega
   have HNO := hZ9 (HMANY.out hn12)
   clear hn HMANY HNONE HSOME
   go_wp2_with fail
   (try simp only [Exit.inBlock, Exit.then])
   refine bodyPost_ret (v := .tuple #[.agg #[.slice none 0 0], .int .i64 4]) ?_ rfl (NameRetP.none HNO.out (hb00.setCell (Nat.le_refl _) _))
   rw [results_cell_tmp rfl]
   have hc1 : (w0.setCell ⟨w.heap.size, 0, none⟩ (.slice none 0 0)).cell? ⟨w.heap.size, 0, none⟩ = some (.slice none 0 0) := (hwh0.put 0 _).cell 0
   go_simp
 have h3 : decide ((12 : Int) < (n : Int)) = false := decide_eq_false (by omega)
 have HNONE2 := hZ9 (HNONE.out hn12)
 have HSOME2 := hZ9 (HSOME.out hn12)
 rcases hcase with rfl | ⟨g, o, rfl, hg, hcell⟩
 · exact absurd rfl HNE.out
 have HCELL := hZ9 hcell
 have hwb0 := Whole.made w0 152 #[.slice none 0 0]
 have hba : Below w0.heap.size w0 (w0.alloc (.cells #[.slice none 0 0] 152)) := grow1 w0 _
 have hwr0 := hwh0.alloc (.cells #[.slice none 0 0] 152)
 have hlb := hwh0.lt
 clear hn hcell hsp HMANY HNONE HSOME hc0 hf0
 go_wp2_with fail
 go_loopw [25] (fun i wr => PNameLoop ps w w0 w0.heap.size i wr) (fun i _ => n - (intOf i).toNat)
 case atStart => exact ⟨0, [], none, 0, Nat.zero_le _, rfl, OwnSS.empty _ _ _ _, rfl, rfl, hwb0, hwr0, hb00.trans (hba.mono hb00.size), hba⟩
 case round =>
  obtain ⟨k, ls, a2, c2, hk, rfl, hown, hll, hq, hwb, hwr, hbw2, hb⟩ := hrel
  rw [HN.out] at hk
  have hEr := hE.below hbw2
  have hsz := hbw2.size
  have hlw := hwb.lt
  have HOWN := hZ9 hown
  have hcb : wr.cell? ⟨w0.heap.size, 0, none⟩ = some (.slice a2 k c2) := hwb.cell 0
  have hcr : wr.cell? ⟨w.heap.size, 0, none⟩ = some (.slice none 0 0) := hwr.cell 0
  have hfr : wr.frozen? ⟨w.heap.size, 0, none⟩ = false := hwr.thaw 0
  clear hown
  by_cases hlt : k < n
  · have hlt2 : k < ps.length := by rw [HN.out]; exact hlt
    have hcx : wr.cell? ⟨g, o + k, none⟩ = some (strV ps[k]) := (hb.cell (p := ⟨g, o + k, none⟩) hg).trans (HCELL.out k _ (List.getElem?_eq_getElem hlt2))
    have hpl := HSM.out ps[k] (List.getElem_mem hlt2)
    have HNO := hZ9 (fun h => HNONE2.out (DnS.partsS_no (List.getElem_mem hlt2) h))
    have HYES := hZ9 (DnS.partsS_step hlt2 hq)
    generalize ps[k] = p at *
    unfold strV at hcx
    clear hq hlt2
    have hpp := rdparse_f p (by omega) wr hEr
    unfold PartRetF at hpp
    have hpn := RdS.part_none (s := p)
    generalize RdS.partS p = P at *
    obtain ⟨xs, e0⟩ := P
    simp only at hpp hpn HNO HYES
    by_cases he : e0 = 0
    · subst he
      have HY2 := hZ9 (HYES.out rfl)
      clear HYES HNO hpn hcr hfr
      obtain ⟨i0, hi, hz0, hz1, hz2⟩ := info_parts infoAvas1
      have HI := hZ9 hi
      clear hi
      go_wp2_with fail
      refine hpp.mono ?_
      rintro e w1 ⟨v, rfl, hav, hb1, htg⟩
      obtain ⟨a1, c1, rfl, hc1⟩ : ∃ a1 c1, v = .slice a1 xs.length c1 /\ True := by
       obtain ⟨a1, c1, e, _⟩ := hav
       exact ⟨a1, c1, e, trivial⟩
      have hown1 := HOWN.out.call hb1
      have hsz1 := hb1.size
      have hwb1 := hwb.call hb1
      have hwr1 := hwr.call hb1
      have hcb1 : w1.cell? ⟨w0.heap.size, 0, none⟩ = some (.slice a2 k c2) := hwb1.cell 0
      go_wp2_with (at_builtin; refine push_avs 155 190 150 (by decide) Tryz.underlying150 HI.out hz0 hz1 hz2 (by rfl) _ _ (by rfl) (w0.heap.size + 1) _ ls (by rfl) (hown1.call (grow1 w1 _)) w1.heap.size (by rfl) (.slice a1 xs.length c1) (by rfl) xs ?e1 (hav.call (grow1 w1 _) (Nat.le_refl _)) (htg.call (grow1 w1 _)) ?e3 ?e4 ?_)
      case e1 => simp [go_sem]
      case e3 => omega
      case e4 => simp; omega
      intro v' w4 hown4 hb4 _
      obtain ⟨a3, c3, rfl⟩ := hown4.form
      have hl4 : (ls ++ [xs]).length = k + 1 := by simp [hll]
      rw [hl4] at hown4
      simp only [hl4]
      have hwb4 := (hwb1.alloc (.cells #[.slice a1 xs.length c1] 155)).below hb4 (Nat.lt_succ_self _)
      have hwr4 := (hwr1.alloc (.cells #[.slice a1 xs.length c1] 155)).below hb4 (Nat.lt_succ_of_lt hlb)
      have hcb4 : w4.cell? ⟨w0.heap.size, 0, none⟩ = some (.slice a2 k c2) := hwb4.cell 0
      have hfb4 : w4.frozen? ⟨w0.heap.size, 0, none⟩ = false := hwb4.thaw 0
      have HBB : Hid (Below w0.heap.size w0 w4) := hZ9 (((hb.trans (hb1.mono (Nat.le_of_lt hlw))).alloc (by omega) _).trans (hb4.mono (Nat.le_succ _)))
      have HBW : Hid (Below w.heap.size w w4) := hZ9 (((hbw2.trans (hb1.mono hsz)).alloc (by omega) _).trans (hb4.mono (by omega)))
      have HOWN4 := hZ9 hown4
      clear hown4 hb4 hwb1 hwr1 hcb1
      go_wp2_with fail
      go_roundw
      case rel => exact ⟨k + 1, ls ++ [xs], a3, c3, by rw [HN.out]; omega, by go_num, HOWN4.out.setHdr hwb4 (Nat.lt_succ_self _) _, hl4, HY2.out, hwb4.put 0 _, hwr4.other (Nat.ne_of_lt hlb) _, HBW.out.setCell (Nat.le_of_lt hlb) _, HBB.out.setCell (Nat.le_refl _) _⟩
      case measure => simp [intOf]; omega
    · have h2 := hpn he
      rw [Prod.mk.injEq] at h2
      obtain ⟨rfl, rfl⟩ := h2
      have HN2 := hZ9 (HNO.out he)
      clear HYES HNO hpn he
      go_wp2_with fail
      refine hpp.mono ?_
      rintro e w1 ⟨v, rfl, hav, hb1, htg⟩
      have hwr1 := hwr.call hb1
      have hcr1 : w1.cell? ⟨w.heap.size, 0, none⟩ = some (.slice none 0 0) := hwr1.cell 0
      have hfr1 : w1.frozen? ⟨w.heap.size, 0, none⟩ = false := hwr1.thaw 0
      go_wp2_with fail
      (try simp only [Exit.inBlock, Exit.then])
      refine bodyPost_ret (v := .tuple #[.agg #[.slice none 0 0], .int .i64 2]) ?_ rfl (NameRetP.none HN2.out ((hbw2.trans (hb1.mono hsz)).setCell (Nat.le_refl _) _))
      rw [results_cell_tmp rfl]
      have hc1 : (w1.setCell ⟨w.heap.size, 0, none⟩ (.slice none 0 0)).cell? ⟨w.heap.size, 0, none⟩ = some (.slice none 0 0) := (hwr1.put 0 _).cell 0
      go_simp
  · have hkn : k = n := by omega
    subst hkn
    have hall : ps.take k = ps := List.take_of_length_le (by rw [HN.out]; omega)
    rw [hall] at hq
    have HS := hZ9 (HSOME2.out ls hq)
    have HAV := hZ9 (HOWN.out.setHdr hwr (Nat.lt_succ_of_lt hlb) (.slice a2 k c2)).avss
    clear hall hq
    go_wp2_with fail
    (try simp only [Exit.inBlock, Exit.then])
    refine bodyPost_ret (v := .tuple #[.agg #[.slice a2 k c2], .int .i64 0]) ?_ rfl ⟨_, by rw [HS.out], by rw [HS.out]; exact HAV.out, hbw2.setCell (Nat.le_refl _) _⟩
    rw [results_cell_tmp rfl]
    have hc1 : (wr.setCell ⟨w.heap.size, 0, none⟩ (.slice a2 k c2)).cell? ⟨w.heap.size, 0, none⟩ = some (.slice a2 k c2) := (hwr.put 0 _).cell 0
    go_simp
end
end Go.Proofs.YtjmfknfponjgkaaGreatDoor
