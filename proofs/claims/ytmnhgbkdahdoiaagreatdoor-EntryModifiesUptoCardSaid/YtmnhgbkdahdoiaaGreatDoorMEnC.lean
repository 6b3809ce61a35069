/- Plain laws of entries that are changed. Conditions: those that each theorem states; what raises a value is left open. Plain laws of changes that are undone. Conditions: those that each theorem states. Plain laws of values that are raised: the sum is a value. No condition beyond those that each theorem states. Plain laws of an integer that is raised and lowered again. Conditions: the integers have fewer than eighteen digits. -/
import Derived.Test.YtmnhgbkdahdoiaaGreatDoorMRna
namespace Go.Proofs.YtmnhgbkdahdoiaaGreatDoor
namespace EnS
open Go.Lib DnS

/-- a change: what is done, of which attribute, with which values -/
structure Ch where
  op : Int
  typ : List UInt8
  vals : List (List UInt8)
/-- values added one by one; one that is alike another one is refused -/
def addC (t : List UInt8) : List (List UInt8) → List (List UInt8) → List (List UInt8) × Int
  | l, [] => (l, 0)
  | l, v :: r => if withinS t l v = true then ([], 20) else addC t (l ++ [v]) r
/-- values taken off one by one; one that isn't there is refused -/
def delC (t : List UInt8) : List (List UInt8) → List (List UInt8) → List (List UInt8) × Int
  | l, [] => (l, 0)
  | l, v :: r => match findI t l v with
    | none => ([], 16)
    | some i => delC t (l.eraseIdx i) r
section
variable (up : List UInt8 → Int → List UInt8 → List UInt8 → Option (List UInt8))
/-- values raised one by one -/
def incC (t : List UInt8) (syn : Int) (x : List UInt8) : List (List UInt8) → Option (List (List UInt8))
  | [] => some []
  | v :: r => match up t syn v x with
    | none => none
    | some s => match incC t syn x r with
      | none => none
      | some q => some (s :: q)
def changeS (op : Int) (t : List UInt8) (syn : Int) (l vs : List (List UInt8)) : List (List UInt8) × Int :=
  if op = 0 then (if vs = [] then ([], 19) else addC t l vs)
  else if op = 1 then (if l = [] then ([], 16) else if vs = [] then ([], 0) else delC t l vs)
  else if op = 2 then (if aloneS t vs = true then (vs, 0) else ([], 20))
  else if (syn ≠ 3 ∧ syn ≠ 4) ∨ vs.length ≠ 1 then ([], 19)
  else if l = [] then ([], 16)
  else match incC up t syn (vs.headD []) l with
    | none => ([], 19)
    | some q => if aloneS t q = true then (q, 0) else ([], 19)
def modA (l : List At) (c : Ch) : List At × Int :=
  if (RuS.typeOf c.typ).1 = [] then ([], 17)
  else if c.op < 0 ∨ 3 < c.op then ([], 2)
  else if fineS (RuS.typeOf c.typ).1 c.vals = false then ([], 21)
  else if (changeS up c.op (RuS.typeOf c.typ).1 (RuS.typeOf c.typ).2 (valuesL l (RuS.typeOf c.typ).1) c.vals).2 ≠ 0 then ([], (changeS up c.op (RuS.typeOf c.typ).1 (RuS.typeOf c.typ).2 (valuesL l (RuS.typeOf c.typ).1) c.vals).2)
  else (setL (RuS.typeOf c.typ).1 (changeS up c.op (RuS.typeOf c.typ).1 (RuS.typeOf c.typ).2 (valuesL l (RuS.typeOf c.typ).1) c.vals).1 l, 0)
def modL : List At → List Ch → List At × Int
  | l, [] => (l, 0)
  | l, c :: r => if (modA up l c).2 ≠ 0 then ([], (modA up l c).2) else modL (modA up l c).1 r
def modifyS (e : En) (cs : List Ch) : En × Int :=
  if formedE e = true then (if (modL up e.attrs cs).2 ≠ 0 then (⟨[], []⟩, (modL up e.attrs cs).2) else doneS ⟨e.name, (modL up e.attrs cs).1⟩ 67) else (⟨[], []⟩, 1)
end
theorem addC_sound {t : List UInt8} : ∀ {vs l q : List (List UInt8)}, addC t l vs = (q, 0) → fineS t vs = true → fineS t l = true → aloneS t l = true → fineS t q = true ∧ aloneS t q = true
  | [], l, q, h, _, h1, h2 => by
    have := congrArg Prod.fst h
    simp only [addC] at this
    subst this
    exact ⟨h1, h2⟩
  | v :: r, l, q, h, hv, h1, h2 => by
    unfold addC at h
    split at h
    · cases h
    · rename_i h4
      have h4 : withinS t l v = false := by simpa using h4
      unfold fineS at hv
      rw [List.all_cons, Bool.and_eq_true] at hv
      exact addC_sound (vs := r) h hv.2 (by rw [fine_snoc, h1]; exact hv.1) (by unfold aloneS at h2 ⊢; rw [alone_snoc, h2, List.nil_append, h4]; rfl)
theorem delC_sub {t : List UInt8} : ∀ {vs l q : List (List UInt8)}, delC t l vs = (q, 0) → q.Sublist l
  | [], l, q, h => by
    have := congrArg Prod.fst h
    simp only [delC] at this
    rw [← this]
    exact List.Sublist.refl _
  | v :: r, l, q, h => by
    unfold delC at h
    split at h
    · cases h
    · exact (delC_sub h).trans (List.eraseIdx_sublist l _)
section
variable {up : List UInt8 → Int → List UInt8 → List UInt8 → Option (List UInt8)}
theorem incC_fine {t x : List UInt8} {syn : Int} (hup : ∀ v s, up t syn v x = some s → (valueS t s).2 = 0) : ∀ {l q : List (List UInt8)}, incC up t syn x l = some q → fineS t q = true
  | [], q, h => by cases h; rfl
  | v :: r, q, h => by
    unfold incC at h
    split at h
    · cases h
    · rename_i s hs
      split at h
      · cases h
      · rename_i p hp
        cases h
        have := incC_fine hup hp
        unfold fineS at this ⊢
        rw [List.all_cons, this, decide_eq_true (hup v s hs)]
        rfl
theorem change_sound {op : Int} {t : List UInt8} {syn : Int} {l vs q : List (List UInt8)} (hup : ∀ x v s, up t syn v x = some s → (valueS t s).2 = 0) (h : changeS up op t syn l vs = (q, 0)) (hv : fineS t vs = true) (h1 : fineS t l = true) (h2 : aloneS t l = true) : fineS t q = true ∧ aloneS t q = true := by
  unfold changeS at h
  split at h
  · split at h
    · cases h
    · exact addC_sound h hv h1 h2
  · split at h
    · split at h
      · cases h
      · split at h
        · cases h; exact ⟨rfl, rfl⟩
        · exact ⟨fine_sub h1 (delC_sub h), alone_sub h2 (delC_sub h)⟩
    · split at h
      · split at h
        · rename_i ha; cases h; exact ⟨hv, ha⟩
        · cases h
      · split at h
        · cases h
        · split at h
          · cases h
          · split at h
            · cases h
            · rename_i p hp
              split at h
              · rename_i ha; cases h; exact ⟨incC_fine (hup _) hp, ha⟩
              · cases h
theorem modA_sound {l q : List At} {c : Ch} (hup : ∀ t syn x v s, up t syn v x = some s → (valueS t s).2 = 0) (h : modA up l c = (q, 0)) (hl : soundA [] l = true) : soundA [] q = true := by
  unfold modA at h
  split at h
  · cases h
  · rename_i h0
    split at h
    · cases h
    · split at h
      · cases h
      · rename_i hf
        split at h
        · rename_i h3; exact absurd (congrArg Prod.snd h) h3
        · rename_i h3
          have h3 : (changeS up c.op (RuS.typeOf c.typ).1 (RuS.typeOf c.typ).2 (valuesL l (RuS.typeOf c.typ).1) c.vals).2 = 0 := by simpa using h3
          have hq := congrArg Prod.fst h
          simp only at hq
          obtain ⟨k1, k2⟩ := sound_values (t := (RuS.typeOf c.typ).1) hl
          obtain ⟨m1, m2⟩ := change_sound (hup _ _) (q := (changeS up c.op (RuS.typeOf c.typ).1 (RuS.typeOf c.typ).2 (valuesL l (RuS.typeOf c.typ).1) c.vals).1) (by rw [← h3]) (by simpa using hf) k1 k2
          rw [← hq]
          exact set_sound (type_type c.typ) (.inr ⟨m1, m2⟩) (nil_less3 h0) hl
theorem modL_sound (hup : ∀ t syn x v s, up t syn v x = some s → (valueS t s).2 = 0) : ∀ {cs : List Ch} {l q : List At}, modL up l cs = (q, 0) → soundA [] l = true → soundA [] q = true
  | [], l, q, h, hl => by
    have := congrArg Prod.fst h
    simp only [modL] at this
    rw [← this]; exact hl
  | c :: r, l, q, h, hl => by
    unfold modL at h
    split at h
    · rename_i h3; exact absurd (congrArg Prod.snd h) h3
    · rename_i h3
      have h3 : (modA up l c).2 = 0 := by simpa using h3
      exact modL_sound hup h (modA_sound hup (by rw [← h3]) hl)
/-- what is changed is formed -/
theorem modify_formed (hup : ∀ t syn x v s, up t syn v x = some s → (valueS t s).2 = 0) {e f : En} {cs : List Ch} (h : modifyS up e cs = (f, 0)) : formedE f = true := by
  unfold modifyS at h
  split at h
  · rename_i hf
    split at h
    · rename_i h3; exact absurd (congrArg Prod.snd h) h3
    · rename_i h3
      have h3 : (modL up e.attrs cs).2 = 0 := by simpa using h3
      obtain ⟨rfl, hm, hc, hd⟩ := done_zero h (by decide)
      obtain ⟨hn, h0, _⟩ := formed_parts hf
      exact sound_formed hn h0 (modL_sound hup (by rw [← h3]) (formed_sound2 hf).1) hm hc hd
  · cases h
theorem modL_app : ∀ {a b : List Ch} {l q : List At}, modL up l a = (q, 0) → modL up l (a ++ b) = modL up q b
  | [], b, l, q, h => by
    have := congrArg Prod.fst h
    simp only [modL] at this
    rw [← this]; rfl
  | c :: r, b, l, q, h => by
    unfold modL at h
    rw [List.cons_append, modL]
    split at h
    · rename_i h3; exact absurd (congrArg Prod.snd h) h3
    · rename_i h3
      rw [if_neg h3]
      exact modL_app h
/-- changes done in two calls come to what they come to in one -/
theorem modify_parts (hup : ∀ t syn x v s, up t syn v x = some s → (valueS t s).2 = 0) {e f g : En} {a b : List Ch} (h : modifyS up e a = (f, 0)) (k : modifyS up f b = (g, 0)) : modifyS up e (a ++ b) = (g, 0) := by
  have hff := modify_formed hup h
  unfold modifyS at h k ⊢
  split at h
  · rename_i hf
    split at h
    · rename_i h3; exact absurd (congrArg Prod.snd h) h3
    · rename_i h3
      have h3 : (modL up e.attrs a).2 = 0 := by simpa using h3
      obtain ⟨rfl, _⟩ := done_zero h (by decide)
      rw [if_pos hff] at k
      rw [if_pos hf, modL_app (q := (modL up e.attrs a).1) (by rw [← h3])]
      exact k
  · cases h
end
end EnS
end Go.Proofs.YtmnhgbkdahdoiaaGreatDoor
namespace Go.Proofs.YtmnhgbkdahdoiaaGreatDoor
namespace EnS
open Go.Lib DnS

theorem done_formed {e : En} {n : Int} (h : formedE e = true) : doneS e n = (e, 0) := by
  have h2 := (formed_sound2 h).2
  unfold formedE at h
  simp only [Bool.and_eq_true, decide_eq_true_eq] at h
  have hm : manyB e.attrs = false := by
    unfold manyB
    rw [List.any_eq_false]
    intro a ha
    have := h2 a ha
    simp only [decide_eq_true_eq]
    omega
  have hj : judgeS e n = 0 := by
    unfold judgeS
    rw [hm, if_neg (by simp), if_neg h.1.2, if_pos h.2]
  unfold doneS
  rw [if_pos hj]
theorem type_twice (x : List UInt8) : RuS.typeOf (RuS.typeOf x).1 = RuS.typeOf x := by
  have h : ∀ r ∈ RuS.tab, RuS.typeOf r.2.1 = r.2 := by decide +kernel
  have h0 : RuS.typeOf [] = ([], 0) := by decide +kernel
  have hx : RuS.typeOf x = RuS.typeM (RuS.lower x) := rfl
  rw [hx]
  unfold RuS.typeM
  split
  · rename_i r hr
    exact h r (List.mem_of_find?_eq_some hr)
  · exact h0
theorem valueS_type (x v : List UInt8) : valueS (RuS.typeOf x).1 v = valueS x v := by unfold valueS RuS.normal; rw [type_twice]
theorem within_type (x : List UInt8) (l : List (List UInt8)) (v : List UInt8) : withinS x l v = withinS (RuS.typeOf x).1 l v := by unfold withinS meetS; simp only [valueS_type]
theorem meet_self {t v : List UInt8} (h : (valueS t v).2 = 0) : meetS t (valueS t v).1 v = true := by unfold meetS; simp [h]
theorem find_last {t v : List UInt8} {V : List (List UInt8)} (hv : (valueS t v).2 = 0) (hw : withinS t V v = false) : findI t (V ++ [v]) v = some V.length := by
  have h1 : V.findIdx? (meetS t (valueS t v).1) = none := by
    rw [← find_within] at hw
    unfold findI at hw
    rw [if_pos hv] at hw
    cases hf : V.findIdx? (meetS t (valueS t v).1) with
    | none => rfl
    | some i => rw [hf] at hw; cases hw
  unfold findI
  rw [if_pos hv, List.findIdx?_append, h1]
  simp [List.findIdx?_cons, meet_self hv]
theorem within_last {t v : List UInt8} {V : List (List UInt8)} (hv : (valueS t v).2 = 0) : withinS t (V ++ [v]) v = true := by
  unfold withinS
  rw [List.any_append]
  simp [hv, meet_self hv]
section
variable {up : List UInt8 → Int → List UInt8 → List UInt8 → Option (List UInt8)}
theorem modify_none {e f : En} {cs : List Ch} {c : Int} (h : modifyS up e cs = (f, c)) (hc : c ≠ 0) : f.attrs = [] := by
  unfold modifyS at h
  split at h
  · split at h
    · cases h; rfl
    · unfold doneS at h
      split at h
      · cases h; exact absurd rfl hc
      · cases h; rfl
  · cases h; rfl
/-- what was added is there; deleted it is gone; what is replaced by what was there is there -/
theorem modify_undo (hup : ∀ t syn x v s, up t syn v x = some s → (valueS t s).2 = 0) {e f : En} {name v : List UInt8} (hf : formedE e = true) (h : modifyS up e [⟨0, name, [v]⟩] = (f, 0)) :
    hasS f name v = true ∧ modifyS up f [⟨1, name, [v]⟩] = (e, 0) ∧ modifyS up f [⟨2, name, valuesS e name⟩] = (e, 0) := by
  have hff := modify_formed hup h
  have hs := (formed_sound2 hf).1
  obtain ⟨t, ht⟩ : ∃ t, (RuS.typeOf name).1 = t := ⟨_, rfl⟩
  unfold modifyS at h
  rw [if_pos hf] at h
  split at h
  · rename_i h3; exact absurd (congrArg Prod.snd h) h3
  rename_i h3
  obtain ⟨rfl, _⟩ := done_zero h (by decide)
  have h3 : (modL up e.attrs [⟨0, name, [v]⟩]).2 = 0 := by simpa using h3
  -- the change itself
  have hA : t ≠ [] ∧ (valueS t v).2 = 0 ∧ withinS t (valuesL e.attrs t) v = false ∧ (modL up e.attrs [⟨0, name, [v]⟩]).1 = setL t (valuesL e.attrs t ++ [v]) e.attrs := by
    unfold modL at h3 ⊢
    split at h3
    · rename_i h4; exact absurd h3 h4
    · rename_i h4
      rw [if_neg h4]
      have h4 : (modA up e.attrs ⟨0, name, [v]⟩).2 = 0 := by simpa using h4
      unfold modL
      unfold modA at h4 ⊢
      simp only [ht] at h4 ⊢
      split at h4
      · cases h4
      · rename_i h5
        split at h4
        · cases h4
        · rename_i h6
          split at h4
          · cases h4
          · rename_i h7
            split at h4
            · rename_i h8; exact absurd h4 h8
            · rename_i h8
              have h8 : (changeS up 0 t (RuS.typeOf name).2 (valuesL e.attrs t) [v]).2 = 0 := by simpa using h8
              have hv : (valueS t v).2 = 0 := by
                unfold fineS at h7
                simpa using h7
              have hw : withinS t (valuesL e.attrs t) v = false := by
                cases hw : withinS t (valuesL e.attrs t) v with
                | false => rfl
                | true => simp [changeS, addC, hw] at h8
              have hch : changeS up 0 t (RuS.typeOf name).2 (valuesL e.attrs t) [v] = (valuesL e.attrs t ++ [v], 0) := by simp [changeS, addC, hw]
              refine ⟨h5, hv, hw, ?_⟩
              rw [if_neg h5, if_neg h6, if_neg h7, hch, if_neg (by simp)]
  obtain ⟨h5, hv, hw, hl⟩ := hA
  rw [hl] at hff ⊢
  have hval : valuesL (setL t (valuesL e.attrs t ++ [v]) e.attrs) t = valuesL e.attrs t ++ [v] := by rw [values_set hs, if_pos rfl]
  have hfv : fineS t [v] = true := by unfold fineS; simp [hv]
  have hback : ∀ V, V = valuesL e.attrs t → setL t V (setL t (valuesL e.attrs t ++ [v]) e.attrs) = e.attrs := fun V hV => by
    rw [set_set hs, hV, set_same hs]
  have hee : (⟨e.name, e.attrs⟩ : En) = e := rfl
  refine ⟨?_, ?_, ?_⟩
  · unfold hasS valuesS
    rw [ht, if_neg h5]
    show withinS name _ v = true
    rw [hval]
    have : withinS name (valuesL e.attrs t ++ [v]) v = withinS t (valuesL e.attrs t ++ [v]) v := by
      rw [← ht]
      exact within_type name _ v
    rw [this]
    exact within_last hv
  · have hfi := find_last hv hw
    have hch : changeS up 1 t (RuS.typeOf name).2 (valuesL e.attrs t ++ [v]) [v] = (valuesL e.attrs t, 0) := by
      have hx : (valuesL e.attrs t ++ [v]).eraseIdx (valuesL e.attrs t).length = valuesL e.attrs t := by simp [List.eraseIdx_append_of_length_le]
      simp [changeS, delC, hfi, hx]
    have hm : modL up (setL t (valuesL e.attrs t ++ [v]) e.attrs) [⟨1, name, [v]⟩] = (e.attrs, 0) := by
      have hmA : modA up (setL t (valuesL e.attrs t ++ [v]) e.attrs) ⟨1, name, [v]⟩ = (e.attrs, 0) := by
        unfold modA
        simp only [ht, hval]
        rw [if_neg h5, if_neg (by decide), if_neg (by rw [hfv]; simp), hch, if_neg (by simp)]
        exact congrArg (·, 0) (hback _ rfl)
      rw [modL, hmA, if_neg (by simp)]
      rfl
    unfold modifyS
    rw [if_pos hff, hm, if_neg (by simp), hee]
    exact done_formed hf
  · have hsv := sound_values (t := t) hs
    have hvs : valuesS e name = valuesL e.attrs t := by unfold valuesS; rw [ht, if_neg h5]
    have hch : changeS up 2 t (RuS.typeOf name).2 (valuesL e.attrs t ++ [v]) (valuesL e.attrs t) = (valuesL e.attrs t, 0) := by
      simp [changeS, hsv.2]
    have hm : modL up (setL t (valuesL e.attrs t ++ [v]) e.attrs) [⟨2, name, valuesS e name⟩] = (e.attrs, 0) := by
      have hmA : modA up (setL t (valuesL e.attrs t ++ [v]) e.attrs) ⟨2, name, valuesS e name⟩ = (e.attrs, 0) := by
        unfold modA
        simp only [ht, hval, hvs]
        rw [if_neg h5, if_neg (by decide), if_neg (by rw [hsv.1]; simp), hch, if_neg (by simp)]
        exact congrArg (·, 0) (hback _ rfl)
      rw [modL, hmA, if_neg (by simp)]
      rfl
    unfold modifyS
    rw [if_pos hff, hm, if_neg (by simp), hee]
    exact done_formed hf
end
end EnS
end Go.Proofs.YtmnhgbkdahdoiaaGreatDoor
namespace Go.Proofs.YtmnhgbkdahdoiaaGreatDoor
namespace EnS
open Go.Lib DnS

/-- a value, and one that is added (of integers, or of numbers of the plane); none: the sum is no value -/
def upS (t : List UInt8) (syn : Int) (v x : List UInt8) : Option (List UInt8) :=
  if (RuS.typeOf t).2 = syn then
    if syn = 3 then (if (RuS.intS (itoa ((RuS.intS v).getD 0 + (RuS.intS x).getD 0))).isSome then some (itoa ((RuS.intS v).getD 0 + (RuS.intS x).getD 0)) else none)
    else if syn = 4 then (match PhS.parseP v, PhS.parseP x with
      | some (a, b), some (c, d) => if PhS.inR (a + c) (b + d) = true then some (PhS.text (a + c) (b + d)) else none
      | _, _ => none)
    else none
  else none
theorem sec_len {b : Int} (h : b.natAbs ≤ 1000000) : (PhS.sec b).length ≤ 21 ∧ PhS.sec b ≠ [] := by
  have h1 := PhS.itoa_len (n := b) (by omega)
  unfold PhS.sec
  split
  · exact ⟨by simp, by simp⟩
  · split
    · exact ⟨by simp, by simp⟩
    · exact ⟨by rw [List.length_append]; show (itoa b).length + 1 ≤ 21; omega, by simp⟩
theorem text_len {a b : Int} (h : PhS.inR a b = true) : 1 ≤ (PhS.text a b).length ∧ (PhS.text a b).length ≤ 200 := by
  unfold PhS.inR at h
  have h := of_decide_eq_true h
  have ha := PhS.itoa_len (n := a) (by omega)
  have ha0 : 1 ≤ (itoa a).length := List.length_pos_iff.2 (PhS.itoa_ne a)
  have hs := sec_len h.2
  have hs0 : 1 ≤ (PhS.sec b).length := List.length_pos_iff.2 hs.2
  unfold PhS.text
  split
  · omega
  · split
    · omega
    · split
      · rw [List.length_append, List.length_cons]; omega
      · rw [List.length_append]; omega
theorem up_value {t v x s : List UInt8} {syn : Int} (h : upS t syn v x = some s) : (valueS t s).2 = 0 := by
  unfold upS at h
  split at h
  · rename_i ht
    split at h
    · rename_i h3
      split at h
      · rename_i hs
        cases h
        generalize hn : (RuS.intS v).getD 0 + (RuS.intS x).getD 0 = n at *
        obtain ⟨m, hm⟩ := Option.isSome_iff_exists.1 hs
        have hm2 := RuS.intS_iff.1 hm
        have hl : (itoa n).length ≤ 20 := by rw [← hm2.1]; exact PhS.itoa_len (by omega)
        have hp : 1 ≤ (itoa n).length := List.length_pos_iff.2 (PhS.itoa_ne n)
        unfold valueS
        rw [if_neg (by omega)]
        unfold RuS.normal RuS.normalR
        rw [ht, h3, if_neg (by decide), if_neg (by decide), if_neg (by omega)]
        have : RuS.normV 3 (itoa n) = some (itoa n) := by unfold RuS.normV; simp [hs]
        rw [this]
      · cases h
    · split at h
      · rename_i h4
        split at h
        · split at h
          · rename_i a b c d _ _ hr
            cases h
            have hl := text_len hr
            unfold valueS
            rw [if_neg (by omega)]
            unfold RuS.normal RuS.normalR
            rw [ht, h4, if_neg (by decide), if_neg (by decide), if_neg (by omega)]
            have hs : (PhS.parseP (PhS.text (a + c) (b + d))).isSome = true := by rw [PhS.parseP_text hr]; rfl
            have : RuS.normV 4 (PhS.text (a + c) (b + d)) = some (PhS.text (a + c) (b + d)) := by unfold RuS.normV; simp [hs]
            rw [this]
          · cases h
        · cases h
      · cases h
  · cases h
theorem modify_formed_up {e f : En} {cs : List Ch} (h : modifyS upS e cs = (f, 0)) : formedE f = true := modify_formed (fun _ _ _ _ _ h => up_value h) h
theorem modify_parts_up {e f g : En} {a b : List Ch} (h : modifyS upS e a = (f, 0)) (k : modifyS upS f b = (g, 0)) : modifyS upS e (a ++ b) = (g, 0) := modify_parts (fun _ _ _ _ _ h => up_value h) h k
theorem modify_undo_up {e f : En} {name v : List UInt8} (hf : formedE e = true) (h : modifyS upS e [⟨0, name, [v]⟩] = (f, 0)) :
    hasS f name v = true ∧ modifyS upS f [⟨1, name, [v]⟩] = (e, 0) ∧ modifyS upS f [⟨2, name, valuesS e name⟩] = (e, 0) := modify_undo (fun _ _ _ _ _ h => up_value h) hf h
end EnS
end Go.Proofs.YtmnhgbkdahdoiaaGreatDoor
namespace Go.Proofs.YtmnhgbkdahdoiaaGreatDoor
namespace EnS
open Go.Lib DnS

def dcxI : List UInt8 := [100, 99, 61, 120]
def tSer : List UInt8 := [115, 101, 114, 105, 97, 108, 78, 117, 109, 98, 101, 114]
/-- an entry with a serial number -/
def eI (s : List UInt8) : En := ⟨dcxI, [⟨[100, 99], [[120]]⟩, ⟨tClass, [[111]]⟩, ⟨tSer, [s]⟩]⟩
theorem ser_type : RuS.typeOf tSer = (tSer, 3) := by decide +kernel
theorem ser_value {n : Int} (h : n.natAbs < 1000000000000000000) : RuS.intS (itoa n) = some n ∧ (valueS tSer (itoa n)).2 = 0 := by
  have hm : RuS.intS (itoa n) = some n := RuS.intS_iff.2 ⟨rfl, h⟩
  refine ⟨hm, ?_⟩
  have hl : (itoa n).length ≤ 20 := PhS.itoa_len (by omega)
  have hp : 1 ≤ (itoa n).length := List.length_pos_iff.2 (PhS.itoa_ne n)
  unfold valueS
  rw [ser_type, if_neg (by decide)]
  unfold RuS.normal RuS.normalR
  rw [ser_type, if_neg (by decide), if_neg (by decide), if_neg (by omega)]
  have : RuS.normV 3 (itoa n) = some (itoa n) := by unfold RuS.normV; simp [hm]
  rw [this]
theorem make_serial {s : List UInt8} (hs : (valueS tSer s).2 = 0) : makeS dcxI [⟨tClass, [[111]]⟩, ⟨[100, 99], [[120]]⟩, ⟨tSer, [s]⟩] = (eI s, 0) := by
  have h1 : normN dcxI = (dcxI, 0) := by decide +kernel
  have hA : addS tClass (valuesL [] tClass) [[111]] = ([[111]], 0) := by decide +kernel
  have hAt : RuS.typeOf tClass = (tClass, 1) := by decide +kernel
  have hBt : RuS.typeOf [100, 99] = ([100, 99], 1) := by decide +kernel
  have hB : addS [100, 99] [] [[120]] = ([[120]], 0) := by decide +kernel
  have hw : withinS tSer [] s = false := within_nil _ _
  have hC : addS tSer [] [s] = ([s], 0) := by simp [addS, hs, hw]
  have l1 : Op.bytesLess tClass [100, 99] = false := by decide +kernel
  have l2 : Op.bytesLess [100, 99] tSer = true := by decide +kernel
  have l3 : Op.bytesLess tClass tSer = true := by decide +kernel
  have n1 : ¬ tClass = [100, 99] := by decide
  have n2 : ¬ ([100, 99] : List UInt8) = tSer := by decide
  have n3 : ¬ tClass = tSer := by decide
  have e1 : tClass ≠ [] := by decide
  have e3 : tSer ≠ [] := by decide
  have hm1 : makeA [] ⟨tClass, [[111]]⟩ = ([⟨tClass, [[111]]⟩], 0) := by
    unfold makeA
    simp only [hAt]
    rw [if_neg e1, if_neg (by simp), hA, if_neg (by simp)]
    rfl
  have hm2 : makeA [⟨tClass, [[111]]⟩] ⟨[100, 99], [[120]]⟩ = ([⟨[100, 99], [[120]]⟩, ⟨tClass, [[111]]⟩], 0) := by
    unfold makeA
    simp only [hBt]
    have hv : valuesL [⟨tClass, [[111]]⟩] [100, 99] = [] := by simp [valuesL, n1]
    rw [if_neg (by simp), if_neg (by simp), hv, hB, if_neg (by simp)]
    simp [setL, newL, l1, n1]
  have hm3 : makeA [⟨[100, 99], [[120]]⟩, ⟨tClass, [[111]]⟩] ⟨tSer, [s]⟩ = ([⟨[100, 99], [[120]]⟩, ⟨tClass, [[111]]⟩, ⟨tSer, [s]⟩], 0) := by
    unfold makeA
    simp only [ser_type]
    have hv : valuesL [⟨[100, 99], [[120]]⟩, ⟨tClass, [[111]]⟩] tSer = [] := by simp [valuesL, n2, n3]
    rw [if_neg e3, if_neg (by simp), hv, hC, if_neg (by simp)]
    simp [setL, newL, l2, l3]
  have hl : makeL [] [⟨tClass, [[111]]⟩, ⟨[100, 99], [[120]]⟩, ⟨tSer, [s]⟩] = ((eI s).attrs, 0) := by
    rw [makeL, hm1, if_neg (by simp), makeL, hm2, if_neg (by simp), makeL, hm3, if_neg (by simp)]
    rfl
  have hd : doneS ⟨dcxI, (eI s).attrs⟩ 64 = (eI s, 0) := by
    have hm : manyB (eI s).attrs = false := by simp [manyB, eI]
    have hc : valuesS ⟨dcxI, (eI s).attrs⟩ tClass = [[111]] := by
      have nd : ¬ ([100, 99] : List UInt8) = tClass := by decide
      unfold valuesS
      rw [hAt, if_neg e1]
      simp [eI, valuesL, nd]
    have hp : pairsS dcxI = [([100, 99], [120])] := by decide +kernel
    have hv2 : valuesS ⟨dcxI, (eI s).attrs⟩ [100, 99] = [[120]] := by
      unfold valuesS
      rw [hBt, if_neg (by simp)]
      simp [eI, valuesL]
    have hw2 : withinS [100, 99] [[120]] [120] = true := by decide +kernel
    have hn : namedS ⟨dcxI, (eI s).attrs⟩ = true := by
      unfold namedS
      show (pairsS dcxI).all _ = true
      rw [hp]
      simp [hasS, hv2, hw2]
    have hj : judgeS ⟨dcxI, (eI s).attrs⟩ 64 = 0 := by
      unfold judgeS
      show (if manyB (eI s).attrs = true then _ else _) = _
      rw [hm, if_neg (by simp), hc, if_neg (by simp), if_pos hn]
    unfold doneS
    rw [if_pos hj]
    rfl
  unfold makeS
  rw [h1, if_neg (by decide), hl, if_neg (by simp)]
  exact hd
theorem serial_formed {s : List UInt8} (hs : (valueS tSer s).2 = 0) : formedE (eI s) = true := make_formed (make_serial hs)
/-- raised -/
theorem modify_serial {a b : Int} (ha : a.natAbs < 1000000000000000000) (hb : b.natAbs < 1000000000000000000) (hab : (a + b).natAbs < 1000000000000000000) : modifyS upS (eI (itoa a)) [⟨3, tSer, [itoa b]⟩] = (eI (itoa (a + b)), 0) := by
  have va := ser_value ha
  have vb := ser_value hb
  have vc := ser_value hab
  have hup : upS tSer 3 (itoa a) (itoa b) = some (itoa (a + b)) := by
    unfold upS
    rw [ser_type, if_pos rfl, if_pos rfl, va.1, vb.1]
    show (if (RuS.intS (itoa (a + b))).isSome = true then _ else _) = _
    rw [vc.1]
    rfl
  have n2 : ¬ ([100, 99] : List UInt8) = tSer := by decide
  have n3 : ¬ tClass = tSer := by decide
  have l2 : Op.bytesLess [100, 99] tSer = true := by decide +kernel
  have l3 : Op.bytesLess tClass tSer = true := by decide +kernel
  have l4 : Op.bytesLess tSer tSer = false := less_self _
  have e3 : tSer ≠ [] := by decide
  have hv : valuesL (eI (itoa a)).attrs tSer = [itoa a] := by simp [eI, valuesL, n2, n3]
  have hal : aloneS tSer [itoa (a + b)] = true := by simp [aloneS, aloneF, within_nil]
  have hf : fineS tSer [itoa b] = true := by simp [fineS, vb.2]
  have hch : changeS upS 3 tSer 3 [itoa a] [itoa b] = ([itoa (a + b)], 0) := by
    simp [changeS, incC, hup, hal]
  have hmA : modA upS (eI (itoa a)).attrs ⟨3, tSer, [itoa b]⟩ = ((eI (itoa (a + b))).attrs, 0) := by
    unfold modA
    simp only [ser_type, hv]
    rw [if_neg e3, if_neg (by decide), if_neg (by rw [hf]; simp), hch, if_neg (by simp)]
    simp [eI, setL, newL, l2, l3, l4]
  unfold modifyS
  have hml : modL upS (eI (itoa a)).attrs [⟨3, tSer, [itoa b]⟩] = ((eI (itoa (a + b))).attrs, 0) := by
    rw [modL, hmA, if_neg (by simp)]
    rfl
  rw [if_pos (serial_formed va.2), hml, if_neg (by simp)]
  exact done_formed (serial_formed vc.2)
end EnS
end Go.Proofs.YtmnhgbkdahdoiaaGreatDoor
