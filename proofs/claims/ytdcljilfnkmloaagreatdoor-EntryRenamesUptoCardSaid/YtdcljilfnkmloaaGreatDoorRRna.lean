/- Plain laws of entries that are given another name. No condition beyond those that each theorem states. The walks of pairs that are kept: the program's closure over them, slices.ContainsFunc; the document's paired and without. Conditions: those that each theorem states; the library's variables are laid. Rows of attributes that come in or are the call's own; the walk of slices.Delete of one text. Conditions: those that each theorem states. -/
import Derived.Laws.IdiomCopy
import Derived.Lib.LazyBuf
import Derived.Test.YtdcljilfnkmloaaGreatDoorRMka
import Derived.Test.YtdcljilfnkmloaaGreatDoorRMkf
import Derived.Test.YtdcljilfnkmloaaGreatDoorRCqa
namespace Go.Proofs.YtdcljilfnkmloaaGreatDoor
namespace EnS
open Go.Lib DnS

/-- a pair of a name's part: its type is one, its value has a normal form -/
def goodP (p : RdS.Pr) : Prop := (RuS.typeOf p.1).1 = p.1 ∧ p.1 ≠ [] ∧ (valueS p.1 p.2).2 = 0
theorem chain_good : ∀ {l : List RdS.Pr} {last : List UInt8}, RdS.chain last l = true → ∀ p ∈ l, goodP p
  | [], _, _, p, hp => by cases hp
  | q :: l, last, h, p, hp => by
    unfold RdS.chain at h
    rw [Bool.and_eq_true] at h
    rcases List.mem_cons.1 hp with rfl | hp
    · have h1 := h.1
      unfold RdS.pairOk at h1
      simp only [Bool.and_eq_true, Bool.or_eq_true, beq_iff_eq] at h1
      obtain ⟨⟨⟨h2, h3⟩, h4⟩, h5⟩ := h1
      refine ⟨h2, fun h0 => ?_, ?_⟩
      · rw [h0] at h4
        cases last <;> simp [Op.bytesLess] at h4
      · unfold valueS
        rw [if_neg (by omega)]
        exact h5
    · exact chain_good h.2 p hp
theorem name_bad0 {s : List UInt8} (h : (nameS s).2 ≠ 0) : (nameS s).1 = [] := by
  unfold nameS at h ⊢
  split
  · rfl
  · rename_i h1
    rw [if_neg h1] at h
    split
    · rfl
    · rename_i h2
      rw [if_neg h2] at h
      split
      · rfl
      · rename_i h3
        rw [if_neg h3] at h
        cases hp : partsS (RdS.splitE 44 s) with
        | none => rfl
        | some l => rw [hp] at h; exact absurd rfl h
theorem pairs_good {s : List UInt8} : ∀ p ∈ pairsS s, goodP p := by
  unfold pairsS
  by_cases h : (DnS.nameS s).2 = 0
  · have hf := DnS.nameS_formed (s := s) (l := (DnS.nameS s).1) (by rw [← h])
    generalize (DnS.nameS s).1 = l at *
    cases l with
    | nil => intro p hp; cases hp
    | cons q r =>
      have := hf.2.1 q (List.mem_cons_self ..)
      unfold RdS.formedS at this
      rw [Bool.and_eq_true] at this
      exact chain_good this.2
  · rw [name_bad0 h]
    intro p hp; cases hp
/-- the first value that is alike another one is taken off -/
def withoutS (t : List UInt8) (l : List (List UInt8)) (v : List UInt8) : List (List UInt8) := match findI t l v with | some i => l.eraseIdx i | none => l
def layP (n : List UInt8) (l : List At) (p : RdS.Pr) : List At := if hasS ⟨n, l⟩ p.1 p.2 = true then l else setL p.1 (valuesS ⟨n, l⟩ p.1 ++ [p.2]) l
def layL (n : List UInt8) : List At → List RdS.Pr → List At
  | l, [] => l
  | l, p :: r => layL n (layP n l p) r
def keptB (fresh : List RdS.Pr) (p : RdS.Pr) : Bool := fresh.any (fun b => b.1 == p.1 && withinS p.1 [b.2] p.2)
def lessP (n : List UInt8) (del : Bool) (fresh : List RdS.Pr) (l : List At) (p : RdS.Pr) : List At := if (del && !keptB fresh p) = true then setL p.1 (withoutS p.1 (valuesS ⟨n, l⟩ p.1) p.2) l else l
def lessL (n : List UInt8) (del : Bool) (fresh : List RdS.Pr) : List At → List RdS.Pr → List At
  | l, [] => l
  | l, p :: r => lessL n del fresh (lessP n del fresh l p) r
def renameS (e : En) (tn : List UInt8) (del : Bool) : En × Int :=
  if formedE e = true then
    if (normN tn).2 ≠ 0 ∨ (normN tn).1 = [] then (⟨[], []⟩, 34)
    else doneS ⟨(normN tn).1, lessL (normN tn).1 del (pairsS tn) (layL (normN tn).1 e.attrs (pairsS tn)) (pairsS e.name)⟩ 64
  else (⟨[], []⟩, 1)
theorem within_app (t v x : List UInt8) (l : List (List UInt8)) : withinS t (l ++ [x]) v = (withinS t l v || withinS t [x] v) := by
  unfold withinS
  rw [List.any_append]
  cases decide ((valueS t v).2 = 0) <;> simp
theorem alone_pair (t : List UInt8) : ∀ (l pre : List (List UInt8)), aloneF t pre l = true ↔ (∀ v ∈ l, withinS t pre v = false) ∧ l.Pairwise (fun a b => withinS t [a] b = false)
  | [], pre => by simp [aloneF]
  | x :: r, pre => by
    rw [aloneF, Bool.and_eq_true, alone_pair t r (pre ++ [x]), List.pairwise_cons]
    constructor
    · rintro ⟨h1, h2, h3⟩
      refine ⟨fun v hv => ?_, fun b hb => ?_, h3⟩
      · rcases List.mem_cons.1 hv with rfl | hv
        · simpa using h1
        · have := h2 v hv
          rw [within_app, Bool.or_eq_false_iff] at this
          exact this.1
      · have := h2 b hb
        rw [within_app, Bool.or_eq_false_iff] at this
        exact this.2
    · rintro ⟨h1, h2, h3⟩
      refine ⟨by simpa using h1 x (List.mem_cons_self ..), fun v hv => ?_, h3⟩
      rw [within_app, h1 v (List.mem_cons_of_mem _ hv), h2 v hv]; rfl
theorem within_nil (t v : List UInt8) : withinS t [] v = false := by unfold withinS; simp
theorem alone_sub {t : List UInt8} {l m : List (List UInt8)} (h : aloneS t l = true) (hs : m.Sublist l) : aloneS t m = true := by
  unfold aloneS at h ⊢
  rw [alone_pair] at h ⊢
  exact ⟨fun v _ => within_nil t v, h.2.sublist hs⟩
theorem fine_sub {t : List UInt8} {l m : List (List UInt8)} (h : fineS t l = true) (hs : m.Sublist l) : fineS t m = true := by
  unfold fineS at h ⊢
  rw [List.all_eq_true] at h ⊢
  exact fun v hv => h v (hs.subset hv)
theorem without_sub (t : List UInt8) (l : List (List UInt8)) (v : List UInt8) : (withoutS t l v).Sublist l := by
  unfold withoutS
  split
  · exact List.eraseIdx_sublist l _
  · exact List.Sublist.refl l
theorem values_good {n : List UInt8} {l : List At} {p : RdS.Pr} (h : goodP p) : valuesS ⟨n, l⟩ p.1 = valuesL l p.1 := by
  unfold valuesS
  rw [h.1, if_neg h.2.1]
theorem lay_sound {n : List UInt8} {l : List At} {p : RdS.Pr} (hp : goodP p) (hl : soundA [] l = true) : soundA [] (layP n l p) = true := by
  unfold layP
  split
  · exact hl
  · rename_i h
    have hv := sound_values (t := p.1) hl
    have hw : withinS p.1 (valuesL l p.1) p.2 = false := by
      have : hasS ⟨n, l⟩ p.1 p.2 = false := by simpa using h
      unfold hasS at this
      rwa [values_good hp] at this
    rw [values_good hp]
    refine set_sound hp.1 (.inr ⟨?_, ?_⟩) (nil_less3 hp.2.1) hl
    · rw [fine_snoc, hv.1, decide_eq_true hp.2.2]; rfl
    · have h2 := hv.2
      unfold aloneS at h2 ⊢
      rw [alone_snoc, h2, List.nil_append, hw]; rfl
theorem less_sound {n : List UInt8} {del : Bool} {fresh : List RdS.Pr} {l : List At} {p : RdS.Pr} (hp : goodP p) (hl : soundA [] l = true) : soundA [] (lessP n del fresh l p) = true := by
  unfold lessP
  split
  · have hv := sound_values (t := p.1) hl
    rw [values_good hp]
    exact set_sound hp.1 (.inr ⟨fine_sub hv.1 (without_sub _ _ _), alone_sub hv.2 (without_sub _ _ _)⟩) (nil_less3 hp.2.1) hl
  · exact hl
theorem layL_sound {n : List UInt8} : ∀ {ps : List RdS.Pr} {l : List At}, (∀ p ∈ ps, goodP p) → soundA [] l = true → soundA [] (layL n l ps) = true
  | [], _, _, hl => hl
  | p :: r, _, hp, hl => layL_sound (ps := r) (fun q hq => hp q (List.mem_cons_of_mem _ hq)) (lay_sound (hp p (List.mem_cons_self ..)) hl)
theorem lessL_sound {n : List UInt8} {del : Bool} {fresh : List RdS.Pr} : ∀ {ps : List RdS.Pr} {l : List At}, (∀ p ∈ ps, goodP p) → soundA [] l = true → soundA [] (lessL n del fresh l ps) = true
  | [], _, _, hl => hl
  | p :: r, _, hp, hl => lessL_sound (ps := r) (fun q hq => hp q (List.mem_cons_of_mem _ hq)) (less_sound (hp p (List.mem_cons_self ..)) hl)
theorem formed_sound2 {e : En} (h : formedE e = true) : soundA [] e.attrs = true ∧ ∀ a ∈ e.attrs, a.vals.length ≤ 20 := by
  have h1 := (formed_parts h).2.2
  rw [formed_sound, Bool.and_eq_true] at h1
  exact ⟨h1.1, fun a ha => of_decide_eq_true (List.all_eq_true.1 h1.2 a ha)⟩
/-- what is renamed is formed -/
theorem rename_formed {e f : En} {tn : List UInt8} {del : Bool} (h : renameS e tn del = (f, 0)) : formedE f = true := by
  unfold renameS at h
  split at h
  · rename_i hf
    split at h
    · cases h
    · rename_i h0
      obtain ⟨rfl, hm, hc, hd⟩ := done_zero h (by decide)
      have hn : (normN tn).2 = 0 := by
        cases Decidable.em ((normN tn).2 = 0) with
        | inl h => exact h
        | inr h => exact absurd (.inl h) h0
      exact sound_formed (norm_norm hn) (fun e => h0 (.inr e)) (lessL_sound pairs_good (layL_sound pairs_good (formed_sound2 hf).1)) hm hc hd
  · cases h
/-- as the program does it: where none is found nothing is set -/
theorem less_find {n : List UInt8} {del : Bool} {fresh : List RdS.Pr} {l : List At} {p : RdS.Pr} (hp : goodP p) (hl : soundA [] l = true) (h : (del && !keptB fresh p) = true) (hn : findI p.1 (valuesS ⟨n, l⟩ p.1) p.2 = none) : lessP n del fresh l p = l := by
  unfold lessP withoutS
  rw [if_pos h, hn, values_good hp]
  exact set_same hl
theorem less_some {n : List UInt8} {del : Bool} {fresh : List RdS.Pr} {l : List At} {p : RdS.Pr} (h : (del && !keptB fresh p) = true) {i : Nat} (hn : findI p.1 (valuesS ⟨n, l⟩ p.1) p.2 = some i) : lessP n del fresh l p = setL p.1 ((valuesS ⟨n, l⟩ p.1).eraseIdx i) l := by
  unfold lessP withoutS
  rw [if_pos h, hn]
theorem less_no {n : List UInt8} {del : Bool} {fresh : List RdS.Pr} {l : List At} {p : RdS.Pr} (h : (del && !keptB fresh p) = false) : lessP n del fresh l p = l := by
  unfold lessP; rw [h, if_neg (by simp)]
theorem less_yes {n : List UInt8} {del : Bool} {fresh : List RdS.Pr} {l : List At} {p : RdS.Pr} (h : (del && !keptB fresh p) = true) : lessP n del fresh l p = setL p.1 (withoutS p.1 (valuesS ⟨n, l⟩ p.1) p.2) l := by
  unfold lessP; rw [if_pos h]
theorem lay_no {n : List UInt8} {l : List At} {p : RdS.Pr} (h : hasS ⟨n, l⟩ p.1 p.2 = true) : layP n l p = l := by unfold layP; rw [if_pos h]
theorem lay_yes {n : List UInt8} {l : List At} {p : RdS.Pr} (h : hasS ⟨n, l⟩ p.1 p.2 = false) : layP n l p = setL p.1 (valuesS ⟨n, l⟩ p.1 ++ [p.2]) l := by unfold layP; rw [h, if_neg (by simp)]
theorem layL_at {n : List UInt8} {l : List At} {ps : List RdS.Pr} {k : Nat} (hk : k < ps.length) : layL n l (ps.drop k) = layL n (layP n l ps[k]) (ps.drop (k + 1)) := by rw [List.drop_eq_getElem_cons hk, layL]
theorem lessL_at {n : List UInt8} {del : Bool} {fresh : List RdS.Pr} {l : List At} {ps : List RdS.Pr} {k : Nat} (hk : k < ps.length) : lessL n del fresh l (ps.drop k) = lessL n del fresh (lessP n del fresh l ps[k]) (ps.drop (k + 1)) := by rw [List.drop_eq_getElem_cons hk, lessL]
theorem layL_end {n : List UInt8} {l : List At} {ps : List RdS.Pr} {k : Nat} (hk : ps.length ≤ k) : layL n l (ps.drop k) = l := by rw [List.drop_eq_nil_of_le hk]; rfl
theorem lessL_end {n : List UInt8} {del : Bool} {fresh : List RdS.Pr} {l : List At} {ps : List RdS.Pr} {k : Nat} (hk : ps.length ≤ k) : lessL n del fresh l (ps.drop k) = l := by rw [List.drop_eq_nil_of_le hk]; rfl
theorem renameS_1 {e : En} {tn : List UInt8} {del : Bool} (h : formedE e = false) : renameS e tn del = (⟨[], []⟩, 1) := by unfold renameS; rw [h, if_neg (by simp)]
theorem renameS_34 {e : En} {tn : List UInt8} {del : Bool} (h : formedE e = true) (h2 : (normN tn).2 ≠ 0 ∨ (normN tn).1 = []) : renameS e tn del = (⟨[], []⟩, 34) := by unfold renameS; rw [if_pos h, if_pos h2]
theorem renameS_yes {e : En} {tn : List UInt8} {del : Bool} (h : formedE e = true) (h2 : ¬ ((normN tn).2 ≠ 0 ∨ (normN tn).1 = [])) : renameS e tn del = doneS ⟨(normN tn).1, lessL (normN tn).1 del (pairsS tn) (layL (normN tn).1 e.attrs (pairsS tn)) (pairsS e.name)⟩ 64 := by unfold renameS; rw [if_pos h, if_neg h2]
end EnS
end Go.Proofs.YtdcljilfnkmloaaGreatDoor
namespace Go.Proofs.YtdcljilfnkmloaaGreatDoor
open Go.RowKit

/-- is a pair alike another one of its type? -/
def renB (p b : RdS.Pr) : Bool := b.1 == p.1 && EnS.withinS p.1 [b.2] p.2
theorem find_zero (t x v : List UInt8) : (idxI (EnS.findI t [x] v) == 0) = EnS.withinS t [x] v := by
  rw [← EnS.find_within]
  unfold EnS.findI
  split
  · rw [List.findIdx?_cons]
    split
    · rfl
    · rfl
  · rfl
theorem strs_one {w : World} {g : Nat} {x : List UInt8} (h : Whole w g 9 #[.string ⟨x.toArray⟩]) : StrsIn w (.slice (some ⟨g, 0, none⟩) 1 1) [x] := by
  refine ⟨some ⟨g, 0, none⟩, 1, rfl, by simp, .inr ⟨g, 0, rfl, h.lt, fun j y hj => ?_⟩⟩
  cases j with
  | zero =>
    simp only [List.getElem?_cons_zero, Option.some.injEq] at hj
    subst hj
    exact h.cell 0
  | succ j => simp at hj
set_option maxRecDepth 100000 in
set_option maxHeartbeats 1000000 in
theorem renclo_c (b p : RdS.Pr) (b1 : Nat) (w : World) (hE : Env w) (h1 : Whole w b1 68 #[.string ⟨p.1.toArray⟩, .string ⟨p.2.toArray⟩]) (hp1 : p.1.length ≤ 1000000) (hp2 : p.2.length ≤ 1000000) (hb2 : b.2.length ≤ 1000000) :
    Calls Tryz.prog 44 #[.agg #[.string ⟨b.1.toArray⟩, .string ⟨b.2.toArray⟩], .pointer (some ⟨b1, 0, none⟩)] w (NmBool (renB p b) w) := by
  have HR : Hid (renB p b = (b.1 == p.1 && EnS.withinS p.1 [b.2] p.2)) := Lib.hid rfl
  generalize renB p b = R at *
  obtain ⟨bt, bv⟩ := b
  obtain ⟨t, v⟩ := p
  simp only at h1 hp1 hp2 hb2 HR ⊢
  have hgA := grow1 w (.cells #[.string ⟨bt.toArray⟩, .string ⟨bv.toArray⟩] 68)
  have hwA := Whole.made w 68 #[.string ⟨bt.toArray⟩, .string ⟨bv.toArray⟩]
  have hpA := h1.call hgA
  have hgB := grow1 (w.alloc (.cells #[.string ⟨bt.toArray⟩, .string ⟨bv.toArray⟩] 68)) (.cells #[.string ⟨bv.toArray⟩] 9)
  have hwB := Whole.made (w.alloc (.cells #[.string ⟨bt.toArray⟩, .string ⟨bv.toArray⟩] 68)) 9 #[.string ⟨bv.toArray⟩]
  have hm : (w.alloc (.cells #[.string ⟨bt.toArray⟩, .string ⟨bv.toArray⟩] 68)).heap.size = w.heap.size + 1 := by show (w.heap.push _).size = _; exact Array.size_push _
  rw [hm] at hwB
  have hzB := below_trans hgA hgB
  have a0 := hwA.cell 0
  have a1 := hwA.cell 1
  have p0 := hpA.cell 0
  have p1 := hpA.cell 1
  have pb0 := (hpA.call hgB).cell 0
  have pb1 := (hpA.call hgB).cell 1
  simp only [List.getElem?_toArray, List.getElem?_cons_zero, List.getElem?_cons_succ] at a0 a1 p0 p1 pb0 pb1
  have hfi := find_c t v (.slice (some ⟨w.heap.size + 1, 0, none⟩) 1 1) [bv] _ (hE.below hzB) (by omega) hp2 (strs_one hwB) (by simp) (by simpa using hb2)
  unfold IdxRetI at hfi
  have hz := find_zero t bv v
  generalize idxI (EnS.findI t [bv] v) = z at *
  clear hwA hpA hwB hm h1
  go_enter Tryz.func44, Tryz.ntmps44
  cases hq : (bt == t) with
  | false =>
    rw [hq] at HR
    have HR2 : Hid (R = false) := Lib.hid HR.out
    clear HR hfi hz
    go_wp2_with fail
    go_ret
    exact ⟨by rw [HR2.out]; rfl, hgA⟩
  | true =>
    rw [hq] at HR
    have HR2 : Hid (R = (z == 0)) := Lib.hid (by rw [HR.out, hz]; rfl)
    clear HR hz
    go_wp2_with fail
    refine hfi.mono ?_; rintro e w1 ⟨rfl, hb1⟩
    go_wp2_with fail
    go_ret
    exact ⟨by rw [HR2.out]; rfl, below_trans hzB hb1⟩
set_option maxRecDepth 100000 in
theorem idxren_c (p : RdS.Pr) (hp : p.1.length ≤ 1000000 ∧ p.2.length ≤ 1000000) (v : Value) (ps : List RdS.Pr) (b1 : Nat) (w : World) (hE : Env w) (h1 : Whole w b1 68 #[.string ⟨p.1.toArray⟩, .string ⟨p.2.toArray⟩])
    (h : AvasIn w v ps) (hl : ps.length ≤ 1048576) (hx : ∀ p ∈ ps, p.1.length ≤ 1000000 ∧ p.2.length ≤ 1000000) :
    Calls Tryz.prog 79 #[v, .func (.func 44) #[] #[.pointer (some ⟨b1, 0, none⟩)]] w (IdxRetI (ps.findIdx? (renB p)) w) := by
  obtain ⟨a, c, rfl, hc, hat⟩ := AvasIn.atk h
  have HAT := Lib.hid hat
  have HX := Lib.hid (fun k (h : k < ps.length) => hx ps[k] (List.getElem_mem h))
  have HC : ∀ b w, Env w → Whole w b1 68 #[.string ⟨p.1.toArray⟩, .string ⟨p.2.toArray⟩] → (b.1.length ≤ 1000000 ∧ b.2.length ≤ 1000000) → Calls Tryz.prog 44 #[.agg #[.string ⟨b.1.toArray⟩, .string ⟨b.2.toArray⟩], .pointer (some ⟨b1, 0, none⟩)] w (NmBool (renB p b) w) := fun b w hE k1 hx => renclo_c b p b1 w hE k1 hp.1 hp.2 hx.2
  unfold NmBool at HC
  have HFND := Lib.hid (fun k (hk : k < ps.length) => idx_found (p := renB p) hk)
  have HNON := Lib.hid (idx_none (p := renB p) (xs := ps))
  have HTM := Lib.hid (fun k (hk : k < ps.length) => take_miss (p := renB p) hk)
  generalize ps.findIdx? (renB p) = R at *
  generalize renB p = q at *
  have H1 := Lib.hid h1
  clear hat hx h h1
  generalize hnn : ps.length = m at hc hl ⊢
  have HN := Lib.hid hnn
  clear hnn
  go_enter Tryz.func79, Tryz.ntmps79
  go_wp2_with fail
  go_loopw [8] (fun i wr => ∃ k : Nat, k ≤ m ∧ i = .int .i64 k ∧ Hid (∀ x ∈ ps.take k, q x = false) ∧ Below w.heap.size w wr) (fun i _ => m - (intOf i).toNat)
  case atStart => exact ⟨0, Nat.zero_le _, rfl, Lib.hid (fun x hx => by cases hx), Below.refl _ _⟩
  case round =>
    obtain ⟨k, hk, rfl, HA, hb⟩ := hrel
    by_cases hlt : k < m
    · have hlt2 : k < ps.length := by rw [HN.out]; exact hlt
      obtain ⟨g, o, rfl, hg, c0, c1⟩ := HAT.out k hlt2
      have c0 := keepC c0 hb
      have c1 := keepC c1 hb
      have hxl := HX.out k hlt2
      have HF := Lib.hid (HFND.out k hlt2 HA.out)
      have HT := Lib.hid (HTM.out k hlt2 HA.out)
      generalize ps[k] = x at *
      have hcl := HC x wr (hE.below hb) (H1.out.call hb) hxl
      clear hlt2 HFND HNON HTM
      obtain ⟨x1, x2⟩ := x
      unfold strV at c0 c1
      simp only at c0 c1 hcl
      cases hq : q (x1, x2) with
      | true =>
        have HR := Lib.hid (HF.out hq)
        rw [hq] at hcl
        clear hq HF HT
        go_wp2_with fail
        refine hcl.mono ?_; rintro e w1 ⟨rfl, hb1⟩
        go_wp2_with fail
        go_ret
        exact ⟨by rw [HR.out]; rfl, hb.trans (hb1.mono hb.size)⟩
      | false =>
        have HR := Lib.hid (HT.out hq)
        rw [hq] at hcl
        clear hq HF HT
        go_wp2_with fail
        refine hcl.mono ?_; rintro e w1 ⟨rfl, hb1⟩
        go_wp2_with fail
        go_roundw
        case rel => exact ⟨k + 1, by omega, by go_num, HR, hb.trans (hb1.mono hb.size)⟩
        case measure => simp [intOf]; omega
    · have HALL : Hid (R = none) := Lib.hid (HNON.out (by have := HA.out; rwa [List.take_of_length_le (by rw [HN.out]; omega)] at this))
      go_wp2_with fail
      go_ret
      exact ⟨by rw [HALL.out]; rfl, hb⟩

set_option maxRecDepth 100000 in
theorem hasren_c (p : RdS.Pr) (hp : p.1.length ≤ 1000000 ∧ p.2.length ≤ 1000000) (v : Value) (ps : List RdS.Pr) (b1 : Nat) (w : World) (hE : Env w) (h1 : Whole w b1 68 #[.string ⟨p.1.toArray⟩, .string ⟨p.2.toArray⟩])
    (h : AvasIn w v ps) (hl : ps.length ≤ 1048576) (hx : ∀ p ∈ ps, p.1.length ≤ 1000000 ∧ p.2.length ≤ 1000000) :
    Calls Tryz.prog 43 #[v, .func (.func 44) #[] #[.pointer (some ⟨b1, 0, none⟩)]] w (NmBool (EnS.keptB ps p) w) := by
  have hi := idxren_c p hp v ps b1 w hE h1 h hl hx
  unfold IdxRetI at hi
  have HR : Hid (EnS.keptB ps p = (ps.findIdx? (renB p)).isSome) := Lib.hid (by rw [find_any2]; rfl)
  generalize EnS.keptB ps p = R at *
  generalize ps.findIdx? (renB p) = I at *
  have HI := Lib.hid (idx_has I)
  generalize idxI I = z at *
  obtain ⟨a, c, rfl, _, _⟩ := AvasIn.atk h
  clear h1 hx
  go_enter Tryz.func43, Tryz.ntmps43
  go_wp2_with fail
  refine hi.mono ?_; rintro e w1 ⟨rfl, hb1⟩
  go_wp2_with fail
  go_ret
  exact ⟨by rw [HR.out, ← HI.out]; rfl, hb1⟩
theorem any_at {p : RdS.Pr → Bool} {l : List RdS.Pr} {k : Nat} (hk : k < l.length) : (l.drop k).any p = (p l[k] || (l.drop (k + 1)).any p) := by
  rw [List.drop_eq_getElem_cons hk, List.any_cons]
set_option maxRecDepth 100000 in
set_option maxHeartbeats 2000000 in
theorem paired_c (p : RdS.Pr) (hp : p.1.length ≤ 1000000 ∧ p.2.length ≤ 1000000) (u : Value) (ps : List RdS.Pr) (w : World) (hE : Env w) (h : AvasIn w u ps) (hl : ps.length ≤ 1048576) (hx : ∀ p ∈ ps, p.1.length ≤ 1000000 ∧ p.2.length ≤ 1000000) :
    Calls Tryz.prog 49 #[u, .string ⟨p.1.toArray⟩, .string ⟨p.2.toArray⟩] w (NmBool (EnS.keptB ps p) w) := by
  obtain ⟨t, v⟩ := p
  simp only at hp ⊢
  obtain ⟨a, c, rfl, hc, hat⟩ := AvasIn.atk h
  have HAT := Lib.hid hat
  have HX := Lib.hid (fun k (h : k < ps.length) => hx ps[k] (List.getElem_mem h))
  have HAN := Lib.hid (fun k (hk : k < ps.length) => any_at (p := renB (t, v)) hk)
  have HP : Hid (∀ b, renB (t, v) b = (b.1 == t && EnS.withinS t [b.2] v)) := Lib.hid (fun _ => rfl)
  have HR0 : Hid (EnS.keptB ps (t, v) = (ps.drop 0).any (renB (t, v))) := Lib.hid rfl
  have HEN := Lib.hid (fun W (hb : Below w.heap.size w W) => hE.below hb)
  generalize EnS.keptB ps (t, v) = R at *
  generalize renB (t, v) = q at *
  clear hat h hx hE
  go_enter Tryz.func49, Tryz.ntmps49
  go_wp2_with fail
  go_loopw [10] (fun i wr => ∃ k : Nat, k ≤ ps.length ∧ i = .int .i64 k ∧ Hid (R = (ps.drop k).any q) ∧ Below w.heap.size w wr) (fun i _ => ps.length - (intOf i).toNat)
  case atStart => exact ⟨0, Nat.zero_le _, rfl, HR0, Below.refl _ _⟩
  case round =>
    obtain ⟨k, hk, rfl, HA, hb⟩ := hrel
    by_cases hlt : k < ps.length
    · obtain ⟨g, o, rfl, hg, c0, c1⟩ := HAT.out k hlt
      have c0 := keepC c0 hb
      have c1 := keepC c1 hb
      have hxl := HX.out k hlt
      have HA1 := Lib.hid (HA.out.trans (HAN.out k hlt))
      have HP1 := Lib.hid (HP.out (ps[k]'hlt))
      clear HAT HX HAN HP HR0 HA
      generalize ps[k] = x at *
      obtain ⟨bt, bv⟩ := x
      unfold strV at c0 c1
      simp only at c0 c1 hxl HP1
      have hl0 : (0 : Int) ≤ (k : Int) := by omega
      have hl1 : (k : Int) < (ps.length : Int) := by omega
      cases hq : (bt == t) with
      | false =>
        have HA2 := Lib.hid (show R = (ps.drop (k + 1)).any q from by rw [HA1.out, HP1.out, hq]; rfl)
        clear HA1 HP1
        go_wp2_with fail
        go_roundw
        case rel => exact ⟨k + 1, by omega, by go_num, HA2, hb⟩
        case measure => simp [intOf]; omega
      | true =>
        have HA2 := Lib.hid (show R = (EnS.withinS t [bv] v || (ps.drop (k + 1)).any q) from by rw [HA1.out, HP1.out, hq]; rfl)
        clear HA1 HP1
        have hgB := grow1 wr (.cells #[.string ⟨bv.toArray⟩] 9)
        have hwB := Whole.made wr 9 #[.string ⟨bv.toArray⟩]
        have hzB := hb.trans (hgB.mono hb.size)
        have hwi := enwithin_c t v (.slice (some ⟨wr.heap.size, 0, none⟩) 1 1) [bv] _ (HEN.out _ hzB) (by omega) hp.2 (strs_one hwB) (by simp) (by simpa using hxl.2)
        unfold NmBool at hwi
        generalize EnS.withinS t [bv] v = WB at *
        clear hwB
        go_wp2_with fail
        refine hwi.mono ?_; rintro e w1 ⟨rfl, hb1⟩
        have hz1 := hzB.trans (hb1.mono hzB.size)
        cases WB with
        | true =>
          have HR := Lib.hid (show R = true from HA2.out)
          clear HA2
          go_wp2_with fail
          go_ret
          exact ⟨by rw [HR.out]; rfl, hz1⟩
        | false =>
          have HR := Lib.hid (show R = (ps.drop (k + 1)).any q from HA2.out)
          clear HA2
          go_wp2_with fail
          go_roundw
          case rel => exact ⟨k + 1, by omega, by go_num, HR, hz1⟩
          case measure => simp [intOf]; omega
    · have HR : Hid (R = false) := Lib.hid (by rw [HA.out, List.drop_eq_nil_of_le (by omega)]; rfl)
      go_wp2_with fail
      go_ret
      exact ⟨by rw [HR.out]; rfl, hb⟩
/-- the first value that is alike another one taken off, one by one; is it gone? -/
def woutS (t v : List UInt8) : Bool → List (List UInt8) → List (List UInt8)
  | _, [] => []
  | g, x :: r => if (!g && EnS.withinS t [x] v) = true then woutS t v true r else x :: woutS t v g r
theorem wout_true (t v : List UInt8) : ∀ l : List (List UInt8), woutS t v true l = l
  | [] => rfl
  | x :: r => by simp [woutS, wout_true t v r]
theorem wout_is (t v : List UInt8) : ∀ l : List (List UInt8), woutS t v false l = EnS.withoutS t l v
  | [] => by
    unfold EnS.withoutS EnS.findI
    split <;> simp_all [woutS]
  | x :: r => by
    have ih := wout_is t v r
    unfold woutS
    unfold EnS.withoutS EnS.findI at ih ⊢
    unfold EnS.withinS
    by_cases h : (DnS.valueS t v).2 = 0
    · rw [if_pos h] at ih ⊢
      rw [List.findIdx?_cons]
      cases hm : EnS.meetS t (DnS.valueS t v).1 x with
      | true => simp [h, hm, wout_true]
      | false =>
        simp only [h, hm, List.any_cons, List.any_nil, Bool.or_false, decide_true, Bool.and_false, Bool.not_false, Bool.false_eq_true, if_false, ih]
        cases hf : r.findIdx? (EnS.meetS t (DnS.valueS t v).1) with
        | none => simp
        | some i => simp
    · rw [if_neg h] at ih ⊢
      simp [h, ih]
theorem wout_at (t v : List UInt8) {l : List (List UInt8)} {k : Nat} (hk : k < l.length) (g : Bool) : woutS t v g (l.drop k) = if (!g && EnS.withinS t [l[k]] v) = true then woutS t v true (l.drop (k + 1)) else l[k] :: woutS t v g (l.drop (k + 1)) := by
  rw [List.drop_eq_getElem_cons hk, woutS]
def WoRet (l : List (List UInt8)) (w : World) (e : Ending) (w' : World) : Prop := ∃ v b, e = .returned (.tuple #[v, .bool b]) ∧ Own w' w.heap.size v l ∧ Below w.heap.size w w'
theorem strs_part {w : World} {g o c : Nat} {l : List (List UInt8)} (h : StrsIn w (.slice (some ⟨g, o, none⟩) l.length c) l) {k : Nat} (hk : k < l.length) (m : Nat) (hm : 1 ≤ m) : StrsIn w (.slice (some ⟨g, o + k, none⟩) 1 m) [l[k]] := by
  obtain ⟨a', c', e, hc, hcase⟩ := h
  cases e
  rcases hcase with rfl | ⟨g', o', e, hg, hcell⟩
  · simp at hk
  · cases e
    refine ⟨some ⟨g, o + k, none⟩, m, rfl, by simpa using hm, .inr ⟨g, o + k, rfl, hg, fun j y hj => ?_⟩⟩
    cases j with
    | zero =>
      simp only [List.getElem?_cons_zero, Option.some.injEq] at hj
      subst hj
      exact hcell k _ (List.getElem?_eq_getElem hk)
    | succ j => simp at hj
set_option maxRecDepth 100000 in
set_option maxHeartbeats 2000000 in
theorem without_c (t v : List UInt8) (u : Value) (l : List (List UInt8)) (w : World) (hE : Env w) (ht : t.length ≤ 1048576) (hv : v.length ≤ 1000000) (h : StrsIn w u l) (hl : l.length ≤ 1048576) (hx : ∀ x ∈ l, x.length ≤ 1000000) :
    Calls Tryz.prog 50 #[.string ⟨t.toArray⟩, u, .string ⟨v.toArray⟩] w (WoRet (EnS.withoutS t l v) w) := by
  rw [← wout_is]
  have HIN := Lib.hid (fun W (hb : Below w.heap.size w W) => h.call hb (Nat.le_refl _))
  obtain ⟨a, c, rfl, hc, hat⟩ := SliceP.at (h.strsP (fun _ => True) (fun _ _ => trivial))
  have HAT := Lib.hid hat
  have HX := Lib.hid (fun k (h : k < l.length) => hx l[k] (List.getElem_mem h))
  have HEN := Lib.hid (fun W (hb : Below w.heap.size w W) => hE.below hb)
  have HWA := Lib.hid (fun k (hk : k < l.length) g => wout_at t v hk g)
  have HW0 : Hid (woutS t v false l = [] ++ woutS t v false (l.drop 0)) := Lib.hid rfl
  generalize woutS t v false l = Z at *
  clear hat h hx hE
  go_enter Tryz.func50, Tryz.ntmps50
  go_wp2_with fail
  go_loopw [8, 9, 13] (fun ov gv i wr => ∃ (k : Nat) (g : Bool) (q : List (List UInt8)), k ≤ l.length ∧ i = .int .i64 k ∧ gv = .bool g ∧ Own wr w.heap.size ov q ∧ Hid (Z = q ++ woutS t v g (l.drop k)) ∧ q.length ≤ k ∧ Below w.heap.size w wr) (fun _ _ i _ => l.length - (intOf i).toNat)
  case atStart => exact ⟨0, false, [], Nat.zero_le _, rfl, rfl, Own.empty _ _, HW0, Nat.le_refl _, Below.refl _ _⟩
  case round =>
    obtain ⟨k, g, q, hk, rfl, rfl, hown, HZ, hql, hb⟩ := hrel
    by_cases hlt : k < l.length
    · obtain ⟨b0, o, rfl, hg, _, hra⟩ := HAT.out k hlt
      have c0 : w.cell? ⟨b0, o + k, none⟩ = some (strV l[k]) := by
        have : w.cell? ⟨b0, o + k * 1, none⟩ = some (strV l[k]) := hra
        rwa [Nat.mul_one] at this
      have c0 := keepC c0 hb
      have hin := strs_part (HIN.out wr hb) hlt (c - k) (by omega)
      have hxl := HX.out k hlt
      have HZ1 := Lib.hid (HZ.out.trans (congrArg (q ++ ·) (HWA.out k hlt g)))
      clear hra HAT HIN HX HWA HW0 HZ
      generalize l[k] = x at *
      unfold strV at c0
      have hwi := fun W hb2 hE => enwithin_c t v (.slice (some ⟨b0, o + k, none⟩) 1 (c - k)) [x] W hE ht hv (hin.call (w' := W) (B := wr.heap.size) hb2 (Nat.le_refl _)) (by simp) (by simpa using hxl)
      unfold NmBool at hwi
      generalize EnS.withinS t [x] v = WB at *
      have hwi1 := hwi wr (Below.refl _ _) (HEN.out _ hb)
      have hl0 : (0 : Int) ≤ (k : Int) := by omega
      have hl1 : (k : Int) < (l.length : Int) := by omega
      have hl2 : (k : Int) + 1 ≤ (c : Int) := by omega
      have hl3 : (k : Int) ≤ (k : Int) + 1 := by omega
      have hck : ¬ c - k = 0 := by omega
      clear hin hwi
      obtain ⟨oa, oc, rfl⟩ := hown.form
      obtain ⟨OL, hOL⟩ : ∃ n, q.length = n := ⟨_, rfl⟩
      rw [hOL] at hown hql ⊢
      cases g with
      | true =>
        have HZ2 := Lib.hid (show Z = (q ++ [x]) ++ woutS t v true (l.drop (k + 1)) from by rw [HZ1.out]; simp)
        clear HZ1 hwi1
        have hgS := grow1 wr (.cells #[.string ⟨x.toArray⟩] 9)
        have hwS := Whole.made wr 9 #[.string ⟨x.toArray⟩]
        have s0 := hwS.cell 0
        simp only [List.getElem?_toArray, List.getElem?_cons_zero] at s0
        have hoS := hown.call hgS
        have hbS := hb.trans (hgS.mono hb.size)
        have hszS := hbS.size
        clear hwS
        go_wp2_with (at_builtin; refine push_str rfl _ _ rfl w.heap.size _ q (by rfl) hoS wr.heap.size (by rfl) x s0 (by omega) hszS ?_)
        intro v6 w6 hown6 hb6
        go_wp2_with fail
        go_roundw
        case rel => exact ⟨k + 1, true, q ++ [x], by omega, by go_num, rfl, hown6, HZ2, by rw [List.length_append]; show q.length + 1 ≤ _; omega, hbS.trans hb6⟩
        case measure => simp [intOf]; omega
      | false =>
        clear HEN
        go_wp2_with fail
        refine hwi1.mono ?_; rintro e w1 ⟨rfl, hb1⟩
        have hz1 := hb.trans (hb1.mono hb.size)
        have hown1 := hown.call hb1
        have c01 := keepC c0 hb1
        clear hwi1 hown
        cases WB with
        | true =>
          have HZ2 := Lib.hid (show Z = q ++ woutS t v true (l.drop (k + 1)) from HZ1.out)
          clear HZ1
          go_wp2_with fail
          go_roundw
          case rel => exact ⟨k + 1, true, q, by omega, by go_num, rfl, hown1, HZ2, by omega, hz1⟩
          case measure => simp [intOf]; omega
        | false =>
          have HZ2 := Lib.hid (show Z = (q ++ [x]) ++ woutS t v false (l.drop (k + 1)) from by rw [HZ1.out]; simp)
          clear HZ1
          have hgS := grow1 w1 (.cells #[.string ⟨x.toArray⟩] 9)
          have hwS := Whole.made w1 9 #[.string ⟨x.toArray⟩]
          have s0 := hwS.cell 0
          simp only [List.getElem?_toArray, List.getElem?_cons_zero] at s0
          have hoS := hown1.call hgS
          have hbS := hz1.trans (hgS.mono hz1.size)
          have hszS := hbS.size
          clear hwS
          go_wp2_with (at_builtin; refine push_str rfl _ _ rfl w.heap.size _ q (by rfl) hoS w1.heap.size (by rfl) x s0 (by omega) hszS ?_)
          intro v6 w6 hown6 hb6
          go_wp2_with fail
          go_roundw
          case rel => exact ⟨k + 1, false, q ++ [x], by omega, by go_num, rfl, hown6, HZ2, by rw [List.length_append]; show q.length + 1 ≤ _; omega, hbS.trans hb6⟩
          case measure => simp [intOf]; omega
    · have hkl : k = l.length := by omega
      subst hkl
      have hd : l.drop l.length = [] := List.drop_length
      have HZ2 := Lib.hid (show Z = q from by rw [HZ.out, hd]; simp [woutS])
      clear HZ HAT HX HWA HW0 HIN
      go_wp2_with fail
      go_ret2
      exact ⟨_, _, rfl, by rw [HZ2.out]; exact hown, hb⟩
end Go.Proofs.YtdcljilfnkmloaaGreatDoor
namespace Go.Proofs.YtdcljilfnkmloaaGreatDoor
open Go.RowKit

/-- attributes: those that came in at w0, or a row of the call's own -/
def RowAt (C : Nat) (w0 w : World) (y : Value) (q : List EnS.At) : Prop := AttrsE [9] C w0 y q ∨ OwnK atK 51 [9] C w w0.heap.size y q
theorem RowAt.form {C : Nat} {w0 w : World} {y : Value} {q : List EnS.At} (h : RowAt C w0 w y q) : ∃ a c, y = .slice a q.length c := by
  rcases h with h | h
  · obtain ⟨a, c, e, _⟩ := SliceP.form h; exact ⟨a, c, e⟩
  · exact h.form
theorem RowAt.call {C : Nat} {w0 w w' : World} {y : Value} {q : List EnS.At} (h : RowAt C w0 w y q) (hb : Below w.heap.size w w') : RowAt C w0 w' y q := by
  rcases h with h | h
  · exact .inl h
  · exact .inr (h.call hb)
theorem RowAt.attrs {C : Nat} {w0 w : World} {y : Value} {q : List EnS.At} (h : RowAt C w0 w y q) (hb : Below w0.heap.size w0 w) : AttrsE [9] C w y q := by
  rcases h with h | h
  · exact h.callT hb
  · exact h.attrsE
theorem RowAt.other {C : Nat} {w0 w : World} {y : Value} {q : List EnS.At} (h : RowAt C w0 w y q) {g : Nat} {cs : Array Value} (hw : Whole w g 26 cs) (hg : C ≤ g) (i : Nat) (v : Value) : RowAt C w0 (w.setCell ⟨g, i, none⟩ v) y q := by
  rcases h with h | h
  · exact .inl h
  · exact .inr (h.other hw hg (by decide) (by decide) i v)
theorem RowAt.own {C : Nat} {w0 w : World} {B : Nat} {y : Value} {q : List EnS.At} (h : OwnK atK 51 [9] C w B y q) (hB : w0.heap.size ≤ B) : RowAt C w0 w y q := .inr (h.mono hB)
def DelRet (B : Nat) (l : List (List UInt8)) (w : World) (e : Ending) (w' : World) : Prop := ∃ a c, e = .returned (.slice a l.length c) ∧ StrsIn w' (.slice a l.length c) l ∧ Below B w w'
theorem strs_fn (l : List (List UInt8)) : Lib.strsOf (fun j => ⟨(l.getD j []).toArray⟩) l.length = l := by
  unfold Lib.strsOf
  apply List.ext_getElem
  · simp
  · intro i h1 h2
    simp [List.getD, h2]
theorem delete_c (v : Value) (l : List (List UInt8)) (B i : Nat) (w : World) (h : Own w B v l) (hi : i < l.length) :
    Calls Tryz.prog 45 #[v, .int .i64 (i : Int), .int .i64 ((i : Int) + 1)] w (DelRet B (l.eraseIdx i) w) := by
  have hi1 : ((i : Int) + 1) = ((i + 1 : Nat) : Int) := by omega
  rw [hi1]
  have h' := h
  unfold Own at h'
  rcases h'.2 with ⟨_, hn⟩ | ⟨g, cap, cur, rfl, hg, hh, hn, hm, hsz, htk⟩
  · omega
  have hadd : ∀ j, (⟨g, 0, none⟩ : Addr).add j = ⟨g, 0 + j, none⟩ := fun j => by unfold Addr.add; split <;> simp_all
  have hcell : ∀ j, j < l.length → w.cell? ⟨g, 0 + j, none⟩ = some (.string ⟨(l.getD j []).toArray⟩) := fun j hj => by
    have := World.ownsRow.cells h' (g := g) rfl j (strV l[j]) (by rw [List.getElem?_map, List.getElem?_eq_getElem hj]; rfl)
    rw [hadd] at this
    rw [this]
    unfold strV
    simp [List.getD, hj]
  have hfz : ∀ j, j < l.length → w.frozen? ⟨g, 0 + j, none⟩ = false := fun j _ => by simp [World.frozen?, hh]
  refine (Tryz.slices_Delete_string_cells g 0 l.length cap i (i + 1) (fun j => ⟨(l.getD j []).toArray⟩) w hn (Nat.le_trans hm (by unfold maxLen; decide)) (by omega) (by omega) hcell hfz).mono ?_
  rintro e w' ⟨rfl, q, rfl⟩
  rw [strs_fn]
  have hlen : (l.eraseIdx i).length = l.length - 1 := List.length_eraseIdx_of_lt hi
  have e1 : l.length - (i + 1 - i) = (l.eraseIdx i).length := by rw [hlen]; omega
  have e2 : l.take i ++ l.drop (i + 1) = l.eraseIdx i := (List.eraseIdx_eq_take_drop_succ l i).symm
  rw [e1, e2]
  refine ⟨some ⟨g, 0, none⟩, cap, rfl, ⟨_, cap, rfl, by omega, ?_⟩, ?_⟩
  · refine .inr ⟨g, 0, rfl, ?_, fun j y hj => ?_⟩
    · have hb := Go.below_setCells (B := B) (a := w) hg (((l.eraseIdx i) ++ List.replicate (i + 1 - i) []).map encStr) 0 _ ((Below.refl B w).trans (show Below B w (w.drewN q) from ⟨rfl, rfl, rfl, Nat.le_refl _, fun _ _ => rfl⟩))
      exact Nat.lt_of_lt_of_le (Array.getElem?_eq_some_iff.1 hh).1 hb.size
    · have hjl : j < (l.eraseIdx i).length := (List.getElem?_eq_some_iff.1 hj).1
      have hin := World.cell?_setCells_in g (((l.eraseIdx i) ++ List.replicate (i + 1 - i) []).map encStr) 0 (w.drewN q) (fun j hj => by
        have hj2 : j < l.length := by simp at hj; omega
        have := hcell j hj2
        show (w.cell? ⟨g, 0 + j, none⟩).isSome = true
        rw [this]; rfl) j (by simp; omega)
      rw [hin]
      have hy : (l.eraseIdx i)[j] = y := (List.getElem?_eq_some_iff.1 hj).2
      simp only [List.getElem_map, List.getElem_append_left hjl, hy]
      rfl
  · exact Go.below_setCells (B := B) (a := w) hg _ 0 _ ⟨rfl, rfl, rfl, Nat.le_refl _, fun _ _ => rfl⟩
end Go.Proofs.YtdcljilfnkmloaaGreatDoor
