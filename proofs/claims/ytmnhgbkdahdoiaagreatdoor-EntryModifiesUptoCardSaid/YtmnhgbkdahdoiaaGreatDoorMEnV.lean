/- Plain laws of changes: what is read of values that have a normal form; how long what comes of a change is. Conditions: those that each theorem states. Plain steps of a list of changes. Conditions: those that each theorem states. Rows of changes in memory, and as they come in, opened: each is of the row's bulk at most. Conditions: those that each theorem states. -/
import Derived.Test.YtmnhgbkdahdoiaaGreatDoorMEnC
import Derived.Test.YtmnhgbkdahdoiaaGreatDoorMMkf
import Derived.Test.YtmnhgbkdahdoiaaGreatDoorMRwe
namespace Go.Proofs.YtmnhgbkdahdoiaaGreatDoor
namespace EnS
open Go.Lib DnS

theorem fine_norm {t v : List UInt8} (hs : (RuS.typeOf t).2 ≠ 5) (h : (valueS t v).2 = 0) : (RuS.normalR (RuS.typeOf t).2 v).2 = 0 := by
  unfold valueS at h
  rw [if_neg hs] at h
  exact h
theorem fine_int {t v : List UInt8} (hs : (RuS.typeOf t).2 = 3) (h : (valueS t v).2 = 0) : ∃ n, RuS.intS v = some n := by
  have h := fine_norm (by omega) h
  unfold RuS.normalR at h
  rw [hs, if_neg (by decide), if_neg (by decide)] at h
  split at h
  · cases h
  · unfold RuS.normV at h
    rw [if_neg (by decide), if_pos rfl] at h
    cases hi : RuS.intS v with
    | some n => exact ⟨n, rfl⟩
    | none => simp [hi] at h
theorem fine_plane {t v : List UInt8} (hs : (RuS.typeOf t).2 = 4) (h : (valueS t v).2 = 0) : ∃ a b, PhS.parseP v = some (a, b) := by
  have h := fine_norm (by omega) h
  unfold RuS.normalR at h
  rw [hs, if_neg (by decide), if_neg (by decide)] at h
  split at h
  · cases h
  · unfold RuS.normV at h
    rw [if_neg (by decide), if_neg (by decide), if_pos rfl] at h
    cases hi : PhS.parseP v with
    | some n => exact ⟨n.1, n.2, rfl⟩
    | none => simp [hi] at h
theorem up_len {t v x s : List UInt8} {syn : Int} (h : upS t syn v x = some s) : s.length ≤ 200 := by
  unfold upS at h
  split at h
  · split at h
    · split at h
      · rename_i hs
        cases h
        generalize hn : (RuS.intS v).getD 0 + (RuS.intS x).getD 0 = n at *
        obtain ⟨m, hm⟩ := Option.isSome_iff_exists.1 hs
        have hm2 := RuS.intS_iff.1 hm
        have hl : (itoa n).length ≤ 20 := by rw [← hm2.1]; exact PhS.itoa_len (by omega)
        omega
      · cases h
    · split at h
      · split at h
        · split at h
          · rename_i a b c d _ _ hr
            cases h
            exact (text_len hr).2
          · cases h
        · cases h
      · cases h
  · cases h
/-- how long what comes of a change is -/
def LenC (N : Nat) (q : List (List UInt8)) : Prop := q.length ≤ N ∧ ∀ v ∈ q, v.length ≤ 1000000
theorem addC_len {t : List UInt8} : ∀ {vs l : List (List UInt8)} {N : Nat}, LenC N l → (∀ v ∈ vs, v.length ≤ 1000000) → LenC (N + vs.length) (addC t l vs).1
  | [], l, N, h, _ => h
  | v :: r, l, N, h, hv => by
    unfold addC
    split
    · exact ⟨Nat.zero_le _, fun x hx => by cases hx⟩
    · have h2 : LenC (N + 1) (l ++ [v]) := ⟨by rw [List.length_append]; show l.length + 1 ≤ N + 1; have := h.1; omega, fun x hx => by
        rcases List.mem_append.1 hx with hx | hx
        · exact h.2 x hx
        · rw [List.mem_singleton] at hx; subst hx; exact hv _ (List.mem_cons_self ..)⟩
      have := addC_len (t := t) (vs := r) h2 (fun x hx => hv x (List.mem_cons_of_mem _ hx))
      rw [List.length_cons, show N + (r.length + 1) = N + 1 + r.length from by omega]
      exact this
theorem delC_len {t : List UInt8} : ∀ {vs l : List (List UInt8)} {N : Nat}, LenC N l → LenC N (delC t l vs).1
  | [], l, N, h => h
  | v :: r, l, N, h => by
    unfold delC
    split
    · exact ⟨Nat.zero_le _, fun x hx => by cases hx⟩
    · have hs := List.eraseIdx_sublist l (by assumption)
      exact delC_len ⟨Nat.le_trans hs.length_le h.1, fun x hx => h.2 x (hs.subset hx)⟩
theorem incC_len {t x : List UInt8} {syn : Int} : ∀ {l q : List (List UInt8)}, incC upS t syn x l = some q → q.length = l.length ∧ ∀ v ∈ q, v.length ≤ 1000000
  | [], q, h => by cases h; exact ⟨rfl, fun v hv => by cases hv⟩
  | v :: r, q, h => by
    unfold incC at h
    split at h
    · cases h
    · rename_i s hs
      split at h
      · cases h
      · rename_i p hp
        cases h
        have := incC_len hp
        exact ⟨by rw [List.length_cons, List.length_cons, this.1], fun z hz => by
          rcases List.mem_cons.1 hz with rfl | hz
          · have := up_len hs; omega
          · exact this.2 z hz⟩
theorem change_len {op : Int} {t : List UInt8} {syn : Int} {l vs : List (List UInt8)} {N : Nat} (hl : LenC N l) (hv : ∀ v ∈ vs, v.length ≤ 1000000) : LenC (N + vs.length) (changeS upS op t syn l vs).1 := by
  have hnil : LenC (N + vs.length) [] := ⟨Nat.zero_le _, fun x hx => by cases hx⟩
  have hup : ∀ {q}, LenC N q → LenC (N + vs.length) q := fun h => ⟨Nat.le_trans h.1 (Nat.le_add_right _ _), h.2⟩
  unfold changeS
  split
  · split
    · exact hnil
    · exact addC_len hl hv
  · split
    · split
      · exact hnil
      · split
        · exact hnil
        · exact hup (delC_len hl)
    · split
      · split
        · exact ⟨Nat.le_add_left _ _, hv⟩
        · exact hnil
      · split
        · exact hnil
        · split
          · exact hnil
          · split
            · exact hnil
            · rename_i q hq
              split
              · have := incC_len hq
                exact hup ⟨by rw [this.1]; exact hl.1, this.2⟩
              · exact hnil
theorem modA_fit {l : List At} {c : Ch} {N : Nat} (hl : FitQ N l) (hv : ∀ v ∈ c.vals, v.length ≤ 1000000) : FitQ (N + c.vals.length) (modA upS l c).1 := by
  have hnil : FitQ (N + c.vals.length) ([] : List At) := fun a ha => by cases ha
  have hV := hl.values (RuS.typeOf c.typ).1
  have hc := change_len (op := c.op) (t := (RuS.typeOf c.typ).1) (syn := (RuS.typeOf c.typ).2) (l := valuesL l (RuS.typeOf c.typ).1) (vs := c.vals) (N := N) hV hv
  unfold modA
  split
  · exact hnil
  · split
    · exact hnil
    · split
      · exact hnil
      · split
        · exact hnil
        · exact hl.set (Nat.le_add_right _ _) _ hc.1 hc.2
theorem modL_fit : ∀ {cs : List Ch} {l : List At} {N : Nat}, FitQ N l → (∀ c ∈ cs, ∀ v ∈ c.vals, v.length ≤ 1000000) → FitQ (N + sumBy (fun c => c.vals.length) cs) (modL upS l cs).1
  | [], l, N, h, _ => h
  | c :: r, l, N, h, hv => by
    unfold modL
    split
    · exact fun a ha => by cases ha
    · have := modL_fit (cs := r) (modA_fit h (hv c (List.mem_cons_self ..))) (fun d hd => hv d (List.mem_cons_of_mem _ hd))
      rw [Nat.add_assoc] at this
      exact this
/-! steps of a list of changes -/
theorem mod_at {l : List At} {cs : List Ch} {k : Nat} (hk : k < cs.length) {q : List At} (h : modA upS l cs[k] = (q, 0)) : modL upS l (cs.drop k) = modL upS q (cs.drop (k + 1)) := by
  rw [List.drop_eq_getElem_cons hk, modL, h, if_neg (by simp)]
theorem mod_no {l : List At} {cs : List Ch} {k : Nat} (hk : k < cs.length) {q : List At} {e : Int} (h : modA upS l cs[k] = (q, e)) (he : e ≠ 0) : modL upS l (cs.drop k) = ([], e) := by
  rw [List.drop_eq_getElem_cons hk, modL, h, if_pos he]
theorem mod_end {l : List At} {cs : List Ch} {k : Nat} (hk : cs.length ≤ k) : modL upS l (cs.drop k) = (l, 0) := by rw [List.drop_eq_nil_of_le hk]; rfl
theorem modA_17 {l : List At} {c : Ch} (h : (RuS.typeOf c.typ).1 = []) : modA upS l c = ([], 17) := by unfold modA; rw [if_pos h]
theorem modA_2 {l : List At} {c : Ch} (h : (RuS.typeOf c.typ).1 ≠ []) (h2 : c.op < 0 ∨ 3 < c.op) : modA upS l c = ([], 2) := by unfold modA; rw [if_neg h, if_pos h2]
theorem modA_21 {l : List At} {c : Ch} (h : (RuS.typeOf c.typ).1 ≠ []) (h2 : ¬ (c.op < 0 ∨ 3 < c.op)) (h3 : fineS (RuS.typeOf c.typ).1 c.vals = false) : modA upS l c = ([], 21) := by unfold modA; rw [if_neg h, if_neg h2, if_pos h3]
theorem modA_bad {l : List At} {c : Ch} (h : (RuS.typeOf c.typ).1 ≠ []) (h2 : ¬ (c.op < 0 ∨ 3 < c.op)) (h3 : fineS (RuS.typeOf c.typ).1 c.vals = true) {q : List (List UInt8)} {e : Int} (hc : changeS upS c.op (RuS.typeOf c.typ).1 (RuS.typeOf c.typ).2 (valuesL l (RuS.typeOf c.typ).1) c.vals = (q, e)) (he : e ≠ 0) : modA upS l c = ([], e) := by
  unfold modA; rw [if_neg h, if_neg h2, if_neg (by rw [h3]; simp), hc, if_pos he]
theorem modA_ok {l : List At} {c : Ch} (h : (RuS.typeOf c.typ).1 ≠ []) (h2 : ¬ (c.op < 0 ∨ 3 < c.op)) (h3 : fineS (RuS.typeOf c.typ).1 c.vals = true) {q : List (List UInt8)} (hc : changeS upS c.op (RuS.typeOf c.typ).1 (RuS.typeOf c.typ).2 (valuesL l (RuS.typeOf c.typ).1) c.vals = (q, 0)) : modA upS l c = (setL (RuS.typeOf c.typ).1 q l, 0) := by
  unfold modA; rw [if_neg h, if_neg h2, if_neg (by rw [h3]; simp), hc, if_neg (by simp)]
/-! steps of one change -/
theorem addC_no {t : List UInt8} {l vs : List (List UInt8)} {k : Nat} (hk : k < vs.length) (h : withinS t l vs[k] = true) : addC t l (vs.drop k) = ([], 20) := by
  rw [List.drop_eq_getElem_cons hk, addC, if_pos h]
theorem addC_at {t : List UInt8} {l vs : List (List UInt8)} {k : Nat} (hk : k < vs.length) (h : withinS t l vs[k] = false) : addC t l (vs.drop k) = addC t (l ++ [vs[k]]) (vs.drop (k + 1)) := by
  rw [List.drop_eq_getElem_cons hk, addC, h, if_neg (by simp)]
theorem addC_end {t : List UInt8} {l vs : List (List UInt8)} {k : Nat} (hk : vs.length ≤ k) : addC t l (vs.drop k) = (l, 0) := by rw [List.drop_eq_nil_of_le hk]; rfl
theorem delC_no {t : List UInt8} {l vs : List (List UInt8)} {k : Nat} (hk : k < vs.length) (h : findI t l vs[k] = none) : delC t l (vs.drop k) = ([], 16) := by
  rw [List.drop_eq_getElem_cons hk, delC, h]
theorem delC_at {t : List UInt8} {l vs : List (List UInt8)} {k i : Nat} (hk : k < vs.length) (h : findI t l vs[k] = some i) : delC t l (vs.drop k) = delC t (l.eraseIdx i) (vs.drop (k + 1)) := by
  rw [List.drop_eq_getElem_cons hk, delC, h]
theorem delC_end {t : List UInt8} {l vs : List (List UInt8)} {k : Nat} (hk : vs.length ≤ k) : delC t l (vs.drop k) = (l, 0) := by rw [List.drop_eq_nil_of_le hk]; rfl
/-- as the document does it: the value found is taken off, and it is told whether one was -/
theorem delC_without {t : List UInt8} {l vs : List (List UInt8)} {k : Nat} (hk : k < vs.length) (h : (findI t l vs[k]).isSome = true) : delC t l (vs.drop k) = delC t (withoutS t l vs[k]) (vs.drop (k + 1)) := by
  obtain ⟨i, hi⟩ := Option.isSome_iff_exists.1 h
  rw [delC_at hk hi]
  unfold withoutS
  rw [hi]
theorem incC_no {t x : List UInt8} {syn : Int} {l : List (List UInt8)} {k : Nat} (hk : k < l.length) (h : upS t syn l[k] x = none) : incC upS t syn x (l.drop k) = none := by
  rw [List.drop_eq_getElem_cons hk, incC, h]
theorem incC_at {t x s : List UInt8} {syn : Int} {l : List (List UInt8)} {k : Nat} (hk : k < l.length) (h : upS t syn l[k] x = some s) : incC upS t syn x (l.drop k) = (incC upS t syn x (l.drop (k + 1))).map (s :: ·) := by
  rw [List.drop_eq_getElem_cons hk, incC, h]
  cases incC upS t syn x (l.drop (k + 1)) <;> rfl
theorem incC_end {t x : List UInt8} {syn : Int} {l : List (List UInt8)} {k : Nat} (hk : l.length ≤ k) : incC upS t syn x (l.drop k) = some [] := by rw [List.drop_eq_nil_of_le hk]; rfl
theorem change_0 {t : List UInt8} {syn : Int} {l vs : List (List UInt8)} (h : vs ≠ []) : changeS upS 0 t syn l vs = addC t l vs := by unfold changeS; rw [if_pos rfl, if_neg h]
theorem change_1 {t : List UInt8} {syn : Int} {l vs : List (List UInt8)} (h : l ≠ []) (h2 : vs ≠ []) : changeS upS 1 t syn l vs = delC t l vs := by unfold changeS; rw [if_neg (by decide), if_pos rfl, if_neg h, if_neg h2]
theorem change_2 {t : List UInt8} {syn : Int} {l vs : List (List UInt8)} : changeS upS 2 t syn l vs = if aloneS t vs = true then (vs, 0) else ([], 20) := by unfold changeS; rw [if_neg (by decide), if_neg (by decide), if_pos rfl]
theorem change_3 {t x : List UInt8} {syn : Int} {l : List (List UInt8)} (h : syn = 3 ∨ syn = 4) (hl : l ≠ []) : changeS upS 3 t syn l [x] = match incC upS t syn x l with
    | none => ([], 19)
    | some q => if aloneS t q = true then (q, 0) else ([], 19) := by
  unfold changeS
  rw [if_neg (by decide), if_neg (by decide), if_neg (by decide), if_neg (by rcases h with h | h <;> simp [h]), if_neg hl]
  rfl
end EnS
end Go.Proofs.YtmnhgbkdahdoiaaGreatDoor
namespace Go.Proofs.YtmnhgbkdahdoiaaGreatDoor
namespace EnS
open Go.Lib DnS

theorem modifyS_1 {e : En} {cs : List Ch} (h : formedE e = false) : modifyS upS e cs = (⟨[], []⟩, 1) := by unfold modifyS; rw [h, if_neg (by simp)]
theorem modifyS_no {e : En} {cs : List Ch} (h : formedE e = true) {q : List At} {c : Int} (hm : modL upS e.attrs cs = (q, c)) (hc : c ≠ 0) : modifyS upS e cs = (⟨[], []⟩, c) := by
  unfold modifyS; rw [if_pos h, hm, if_pos hc]
theorem modifyS_yes {e : En} {cs : List Ch} (h : formedE e = true) {q : List At} (hm : modL upS e.attrs cs = (q, 0)) : modifyS upS e cs = doneS ⟨e.name, q⟩ 67 := by
  unfold modifyS; rw [if_pos h, hm, if_neg (by simp)]
section
variable {l : List At} {cs : List Ch} {k : Nat}
theorem step_17 (hk : k < cs.length) (h : (RuS.typeOf cs[k].typ).1 = []) : modL upS l (cs.drop k) = ([], 17) := mod_no hk (modA_17 h) (by decide)
theorem step_2 (hk : k < cs.length) (h : (RuS.typeOf cs[k].typ).1 ≠ []) (h2 : cs[k].op < 0 ∨ 3 < cs[k].op) : modL upS l (cs.drop k) = ([], 2) := mod_no hk (modA_2 h h2) (by decide)
theorem step_21 (hk : k < cs.length) (h : (RuS.typeOf cs[k].typ).1 ≠ []) (h2 : ¬ (cs[k].op < 0 ∨ 3 < cs[k].op)) (h3 : fineS (RuS.typeOf cs[k].typ).1 cs[k].vals = false) : modL upS l (cs.drop k) = ([], 21) := mod_no hk (modA_21 h h2 h3) (by decide)
theorem step_bad (hk : k < cs.length) (h : (RuS.typeOf cs[k].typ).1 ≠ []) (h2 : ¬ (cs[k].op < 0 ∨ 3 < cs[k].op)) (h3 : fineS (RuS.typeOf cs[k].typ).1 cs[k].vals = true) {q : List (List UInt8)} {e : Int}
    (hc : changeS upS cs[k].op (RuS.typeOf cs[k].typ).1 (RuS.typeOf cs[k].typ).2 (valuesL l (RuS.typeOf cs[k].typ).1) cs[k].vals = (q, e)) (he : e ≠ 0) : modL upS l (cs.drop k) = ([], e) := mod_no hk (modA_bad h h2 h3 hc he) he
theorem step_ok (hk : k < cs.length) (h : (RuS.typeOf cs[k].typ).1 ≠ []) (h2 : ¬ (cs[k].op < 0 ∨ 3 < cs[k].op)) (h3 : fineS (RuS.typeOf cs[k].typ).1 cs[k].vals = true) {q : List (List UInt8)}
    (hc : changeS upS cs[k].op (RuS.typeOf cs[k].typ).1 (RuS.typeOf cs[k].typ).2 (valuesL l (RuS.typeOf cs[k].typ).1) cs[k].vals = (q, 0)) {N : Nat} (hs : soundA [] l = true) (hF : FitQ N l) (hv : ∀ v ∈ cs[k].vals, v.length ≤ 1000000) :
    modL upS l (cs.drop k) = modL upS (setL (RuS.typeOf cs[k].typ).1 q l) (cs.drop (k + 1)) ∧ soundA [] (setL (RuS.typeOf cs[k].typ).1 q l) = true ∧ FitQ (N + cs[k].vals.length) (setL (RuS.typeOf cs[k].typ).1 q l) ∧ LenC (N + cs[k].vals.length) q := by
  have hm := modA_ok h h2 h3 hc
  have hf := modA_fit (c := cs[k]) hF hv
  have hcl := change_len (op := cs[k].op) (t := (RuS.typeOf cs[k].typ).1) (syn := (RuS.typeOf cs[k].typ).2) (l := valuesL l (RuS.typeOf cs[k].typ).1) (vs := cs[k].vals) (N := N) (hF.values _) hv
  rw [hm] at hf
  rw [hc] at hcl
  exact ⟨mod_at hk hm, modA_sound (fun _ _ _ _ _ h => up_value h) hm hs, hf, hcl⟩
end
end EnS
end Go.Proofs.YtmnhgbkdahdoiaaGreatDoor
namespace Go.Proofs.YtmnhgbkdahdoiaaGreatDoor
open Go.ChangeShapes Go.WideShapes Go.ChangeAt Go.RowKit Go.Deep Go.Joins
namespace EnS
def Ch.attr (c : Ch) : At := ⟨c.typ, c.vals⟩
def cC (c : Ch) : Nat := 1 + cA c.attr
end EnS
def ChgAt (ok : Nat → Prop) (w : World) (g o : Nat) (x : EnS.Ch) : Prop := w.cell? ⟨g, o, none⟩ = some (.int .i64 x.op) ∧ w.cell? ⟨g, o + 1, none⟩ = some (strV x.typ) ∧ ∃ u, w.cell? ⟨g, o + 2, none⟩ = some u ∧ StrsP ok w u x.vals
theorem ChgAt.keep {ok ok' : Nat → Prop} {w w' : World} {g o : Nat} {x : EnS.Ch} (h : ChgAt ok w g o x) (hg : g < w.heap.size) (hok : ok g) (hs : w.heap.size ≤ w'.heap.size)
    (hb : ∀ g, g < w.heap.size → ok g → w'.heap[g]? = w.heap[g]?) (hk : ∀ g, g < w.heap.size → ok g → ok' g) : ChgAt ok' w' g o x := by
  obtain ⟨h0, h1, u, h2, h3⟩ := h
  exact ⟨(World.cell?_of_block (a := ⟨g, o, none⟩) (hb g hg hok)).trans h0, (World.cell?_of_block (a := ⟨g, o + 1, none⟩) (hb g hg hok)).trans h1, u, (World.cell?_of_block (a := ⟨g, o + 2, none⟩) (hb g hg hok)).trans h2, h3.keep hs hb hk⟩
def ChgsP (ok : Nat → Prop) (w : World) (v : Value) (xs : List EnS.Ch) : Prop := SliceP 3 (ChgAt ok) ok w v xs
theorem ChgsP.keep {ok ok' : Nat → Prop} {w w' : World} {v : Value} {xs : List EnS.Ch} (h : ChgsP ok w v xs) (hs : w.heap.size ≤ w'.heap.size)
    (hb : ∀ g, g < w.heap.size → ok g → w'.heap[g]? = w.heap[g]?) (hk : ∀ g, g < w.heap.size → ok g → ok' g) : ChgsP ok' w' v xs :=
  SliceP.imp h hs hk fun _ _ _ hg hok hx => hx.keep hg hok hs hb hk
theorem ChgsP.call {ok : Nat → Prop} {w w' : World} {v : Value} {xs : List EnS.Ch} (h : ChgsP ok w v xs) (hb : Below w.heap.size w w') : ChgsP ok w' v xs := h.keep hb.size (fun g hg _ => hb.block g hg) (fun _ _ h => h)
abbrev ChgsIn : World → Value → List EnS.Ch → Prop := ChgsP (fun _ => True)
theorem ChgAt.parts {w : World} {g o : Nat} {x : EnS.Ch} (h : ChgAt (fun _ => True) w g o x) : w.cell? ⟨g, o, none⟩ = some (.int .i64 x.op) ∧ w.cell? ⟨g, o + 1, none⟩ = some (.string ⟨x.typ.toArray⟩) ∧ ∃ a c, w.cell? ⟨g, o + 2, none⟩ = some (.slice a x.vals.length c) ∧ x.vals.length ≤ c ∧ StrsP (fun _ => True) w (.slice a x.vals.length c) x.vals := by
  obtain ⟨h0, h1, u, h2, h3⟩ := h
  obtain ⟨a, c, rfl, hc⟩ := SliceP.form h3
  exact ⟨h0, h1, a, c, h2, hc, h3⟩
def ChOf (N : Nat) (x : EnS.Ch) : Prop := x.typ.length ≤ N ∧ x.vals.length ≤ N ∧ ∀ v ∈ x.vals, v.length ≤ N
section
variable {H : Type} {enc : TypeId × Value → H}
theorem open_chgs_t {w : World} {base : Nat} {held : Bool} {sp : Nat → Bool} {fuel : Nat} {v : Value} {d : DataW H} {ps : List MemPlace} {N : Nat}
    (hf : DataW.trod enc Tryz.prog w base sp held fuel 25 [v] = some (d, ps)) (hb : Rows.uptoBulk d ≤ N) :
    ∃ xs : List EnS.Ch, ChgsIn w v xs ∧ xs.length ≤ N ∧ (∀ x ∈ xs, ChOf N x) ∧ EnS.sumBy EnS.cC xs + 1 ≤ Rows.uptoBulk d := by
  have hci : Tryz.prog.cellsOf 3 = 1 := by kernel_rfl
  have hca : Tryz.prog.cellsOf 37 = 2 := by kernel_rfl
  have hcs : Tryz.prog.cellsOf 9 = 1 := by kernel_rfl
  have hcl : Tryz.prog.cellsOf 35 = 1 := by kernel_rfl
  refine open_sliceP Tryz.underlying25 (by kernel_rfl) (by decide) (ChgAt (fun _ => True)) (ChOf N) EnS.cC hf hb (fun g o cs fu D Pl hc hlen ht hD => ?_)
  match cs, hlen with
  | [x, y, z], _ =>
    obtain ⟨y0, y1, nn, e, _, t0, t1⟩ := trod_struct2 Tryz.underlying39 ht
    simp only [hci, hca, List.drop_zero, List.take_succ_cons, List.take_zero, List.drop_succ_cons] at t0 t1
    have e1 := congrArg Prod.fst e
    simp only at e1
    rw [e1] at hD
    have hD2 := Nat.le_trans (bulk_agg _) hD
    obtain ⟨n0, en, k0, _⟩ := DataW.trod_int Tryz.underlying3 t0
    simp only [List.cons.injEq, and_true] at en
    subst en
    have hD3 := Nat.le_trans (bulk_mem (d := y1.1) (by simp)) hD2
    obtain ⟨z0, z1, nn2, e2, _, s0, s1⟩ := trod_struct2 Tryz.underlying37 t1
    simp only [hcs, hcl, List.drop_zero, List.take_succ_cons, List.take_zero, List.drop_succ_cons] at s0 s1
    have e3 := congrArg Prod.fst e2
    simp only at e3
    rw [e3] at hD3
    have hD4 := Nat.le_trans (bulk_agg _) hD3
    obtain ⟨s, es, k, _⟩ := DataW.trod_string Tryz.underlying9 s0
    simp only [List.cons.injEq, and_true] at es
    subst es
    obtain ⟨xs, h1, h2, h3, h5⟩ := open_strs (N := N) (d := z1.1) (ps := z1.2) s1 (Nat.le_trans (bulk_mem (by simp)) hD4)
    have c0 := hc 0 (by decide)
    have c1 := hc 1 (by decide)
    have c2 := hc 2 (by decide)
    simp only [Nat.add_zero, List.getElem?_cons_zero, List.getElem?_cons_succ] at c0 c1 c2
    rw [str_list2] at c1
    have k1 : z0.1 = .lit (.string s.data.toList) := by first | exact k | exact congrArg Prod.fst k | simp [k]
    have h4 := Nat.le_trans (bulk_mem (d := z0.1) (by simp)) hD4
    rw [k1] at h4
    refine ⟨⟨n0, s.data.toList, xs⟩, ⟨c0, c1, z, c2, h1⟩, ⟨bulk_str h4, h2, h3⟩, ?_⟩
    rw [e1, e3, k1]
    show 1 + (1 + xs.length + EnS.sumBy EnS.cV xs) ≤ _
    rw [EnS.sumBy_one] at h5
    have p0 := bulk_pos y0.1
    have p1 := bulk_pos (.lit (.string s.data.toList) : DataW H)
    have q1 : Rows.uptoBulkAll [(.lit (.string s.data.toList) : DataW H), z1.1] = Rows.uptoBulk (.lit (.string s.data.toList) : DataW H) + (Rows.uptoBulk z1.1 + 0) := by simp only [Rows.uptoBulkAll]
    have q2 := bulk_agg [(.lit (.string s.data.toList) : DataW H), z1.1]
    have q3 : Rows.uptoBulkAll [y0.1, .agg [(.lit (.string s.data.toList) : DataW H), z1.1]] = Rows.uptoBulk y0.1 + (Rows.uptoBulk (.agg [(.lit (.string s.data.toList) : DataW H), z1.1]) + 0) := by simp only [Rows.uptoBulkAll]
    have q4 := bulk_agg [y0.1, .agg [(.lit (.string s.data.toList) : DataW H), z1.1]]
    omega
set_option maxRecDepth 100000 in
theorem open_chgs {w : World} {base : Nat} {held : Bool} {r : Reach} {b0 : Nat} {v : Value} {d : DataW H} {ps : List MemPlace} {sp : Nat → Bool} {N : Nat}
    (hval : Value.okWide Tryz.prog w r b0 25 v) (hd : DataW.Trod enc Tryz.prog w base sp held 25 v d ps) (hb : Rows.uptoBulk d ≤ N) :
    ∃ xs : List EnS.Ch, ChgsIn w v xs ∧ xs.length ≤ N ∧ (∀ x ∈ xs, ChOf N x) ∧ EnS.sumBy EnS.cC xs + 1 ≤ Rows.uptoBulk d := by
  obtain ⟨fuel, hf⟩ := hd
  rcases slice_of_ok Tryz.underlying25 hval with rfl | ⟨g, o, n, c, rfl⟩
  · exact ⟨[], SliceP.nil _ _, Nat.zero_le _, (fun x hx => (by cases hx)), bulk_pos d⟩
  · exact open_chgs_t (by simpa [Value.cells] using hf) hb
end
end Go.Proofs.YtmnhgbkdahdoiaaGreatDoor
