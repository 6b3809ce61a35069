/- Slices of slices of pairs in memory: one that is read; one of the call's own that is appended to. Conditions: those that each theorem states. -/
import Derived.Test.YtifjghkgmfmneaaGreatDoorSrx
namespace Go.Proofs.YtifjghkgmfmneaaGreatDoor
open Go.RowKit

/-- v is a slice whose elements are slices of pairs -/
def AvssIn (w : World) (v : Value) (ls : List (List RdS.Pr)) : Prop :=
  ∃ (a : Option Addr) (c : Nat) (us : List Value), v = .slice a ls.length c ∧ ls.length ≤ c ∧ us.length = ls.length ∧ (∀ (i : Nat) (u : Value) (l : List RdS.Pr), us[i]? = some u → ls[i]? = some l → AvasIn w u l) ∧
    (ls = [] ∨ ∃ g o, a = some ⟨g, o, none⟩ ∧ g < w.heap.size ∧ ∀ (i : Nat) (u : Value), us[i]? = some u → w.cell? ⟨g, o + i, none⟩ = some u)
theorem AvssIn.call {w w' : World} {v : Value} {ls : List (List RdS.Pr)} (h : AvssIn w v ls) {B : Nat} (hb : Below B w w') (hB : w.heap.size ≤ B) : AvssIn w' v ls := by
  obtain ⟨a, c, us, rfl, hc, hu, hel, h⟩ := h
  refine ⟨a, c, us, rfl, hc, hu, fun i u l h1 h2 => (hel i u l h1 h2).call hb hB, ?_⟩
  rcases h with h | ⟨g, o, rfl, hg, h⟩
  · exact .inl h
  · exact .inr ⟨g, o, rfl, Nat.lt_of_lt_of_le hg hb.size, fun i u hi => (hb.cell (p := ⟨g, o + i, none⟩) (Nat.lt_of_lt_of_le hg hB)).trans (h i u hi)⟩
theorem AvssIn.empty (w : World) : AvssIn w (.slice none 0 0) [] := ⟨none, 0, [], rfl, Nat.le_refl _, rfl, fun i u l h => (by simp at h), .inl rfl⟩
/-- an element of such a slice: its cell and what it is -/
theorem AvssIn.at {w : World} {v : Value} {ls : List (List RdS.Pr)} (h : AvssIn w v ls) : ∃ a c, v = .slice a ls.length c ∧ ls.length ≤ c ∧ (ls = [] ∨ ∃ g o, a = some ⟨g, o, none⟩ ∧ g < w.heap.size ∧ ∀ (i : Nat) (l : List RdS.Pr), ls[i]? = some l → ∃ u, w.cell? ⟨g, o + i, none⟩ = some u ∧ AvasIn w u l) := by
  obtain ⟨a, c, us, rfl, hc, hu, hel, h⟩ := h
  refine ⟨a, c, rfl, hc, ?_⟩
  rcases h with h | ⟨g, o, rfl, hg, h⟩
  · exact .inl h
  · refine .inr ⟨g, o, rfl, hg, fun i l hl => ?_⟩
    have hlt : i < us.length := by rw [hu]; exact (List.getElem?_eq_some_iff.1 hl).1
    exact ⟨us[i], h i _ (List.getElem?_eq_getElem hlt), hel i _ l (List.getElem?_eq_getElem hlt) hl⟩
/-- v is a slice of the call's own (element type T), its elements are slices of pairs (of element type T2) -/
def OwnSS (T T2 : TypeId) (w : World) (B : Nat) (v : Value) (ls : List (List RdS.Pr)) : Prop :=
  ∃ us : List Value, w.ownsRow B T 1 v ls.length us ∧ us.length = ls.length ∧ ∀ (i : Nat) (u : Value) (l : List RdS.Pr), us[i]? = some u → ls[i]? = some l → AvasIn w u l ∧ Tag T2 w u
theorem OwnSS.empty (T T2 : TypeId) (w : World) (B : Nat) : OwnSS T T2 w B (.slice none 0 0) [] := ⟨[], World.ownsRow_nil w B _ 1, rfl, fun i u l h => (by simp at h)⟩
theorem OwnSS.form {T T2 : TypeId} {w : World} {B : Nat} {v : Value} {ls : List (List RdS.Pr)} (h : OwnSS T T2 w B v ls) : ∃ a c, v = .slice a ls.length c := by
  obtain ⟨us, h, _⟩ := h
  rcases h.2 with ⟨rfl, hn⟩ | ⟨g, cap, cur, rfl, _⟩
  · exact ⟨_, _, by rw [hn]⟩
  · exact ⟨_, _, rfl⟩
theorem OwnSS.call {T T2 : TypeId} {w w' : World} {B : Nat} {v : Value} {ls : List (List RdS.Pr)} (h : OwnSS T T2 w B v ls) (hb : Below w.heap.size w w') : OwnSS T T2 w' B v ls := by
  obtain ⟨us, h1, h2, h3⟩ := h
  exact ⟨us, World.ownsRow.kept h1 (grown_none hb) (by cases v.ownBlock <;> simp), h2, fun i u l a b => ⟨(h3 i u l a b).1.call hb (Nat.le_refl _), (h3 i u l a b).2.call hb⟩⟩
theorem OwnSS.avss {T T2 : TypeId} {w : World} {B : Nat} {v : Value} {ls : List (List RdS.Pr)} (h : OwnSS T T2 w B v ls) : AvssIn w v ls := by
  obtain ⟨us, h1, h2, h3⟩ := h
  rcases h1.2 with ⟨rfl, hn⟩ | ⟨g, cap, cur, rfl, hg, hh, hn, hm, hsz, htk⟩
  · refine ⟨none, 0, us, by rw [hn], by omega, h2, fun i u l a b => (h3 i u l a b).1, .inl (List.eq_nil_of_length_eq_zero hn)⟩
  · refine ⟨some ⟨g, 0, none⟩, cap, us, rfl, hn, h2, fun i u l a b => (h3 i u l a b).1, .inr ⟨g, 0, rfl, (Array.getElem?_eq_some_iff.1 hh).1, fun i u hi => ?_⟩⟩
    have := World.ownsRow.cells h1 (g := g) rfl i u hi
    have hadd : (⟨g, 0, none⟩ : Addr).add i = ⟨g, 0 + i, none⟩ := by unfold Addr.add; split <;> simp_all
    rwa [hadd] at this
/-- a block of one slice's header: what is stored there turns no slice of pairs -/
theorem AvasIn.setHdr {w : World} {v : Value} {xs : List RdS.Pr} (h : AvasIn w v xs) {b : Nat} {T : TypeId} {a0 : Option Addr} {n0 c0 : Nat} (hw : Whole w b T #[.slice a0 n0 c0]) (u : Value) : AvasIn (w.setCell ⟨b, 0, none⟩ u) v xs := by
  obtain ⟨a, c, rfl, hc, h⟩ := h
  refine ⟨a, c, rfl, hc, ?_⟩
  rcases h with h | ⟨g, o, rfl, hg, h⟩
  · exact .inl h
  · cases xs with
    | nil => exact .inl rfl
    | cons p xs =>
      have hne : g ≠ b := by
        intro e
        subst e
        have h1 := (h 0 p rfl).1
        rw [hw.cell] at h1
        cases o with
        | zero => simp [strV] at h1
        | succ o => simp at h1
      refine .inr ⟨g, o, rfl, by simpa [World.setCell] using hg, fun j q hj => ?_⟩
      have hblk := Below.heap_setCell w ⟨b, 0, none⟩ u g hne
      exact ⟨(World.cell?_of_block (a := ⟨g, o + j * 2, none⟩) hblk).trans (h j q hj).1, (World.cell?_of_block (a := ⟨g, o + j * 2 + 1, none⟩) hblk).trans (h j q hj).2⟩
theorem Tag.setCell {T : TypeId} {w : World} {v : Value} (h : Tag T w v) (a : Addr) (u : Value) : Tag T (w.setCell a u) v := fun g hg => by
  obtain ⟨cs, fz, e⟩ := h g hg
  by_cases hb : g = a.block
  · subst hb
    show ∃ cs fz, (w.heap.modify a.block _)[a.block]? = _
    rw [Array.getElem?_modify, if_pos rfl, e]
    exact ⟨_, _, rfl⟩
  · exact ⟨cs, fz, (Below.heap_setCell w a u g hb).trans e⟩
theorem OwnSS.setHdr {Ts T2 : TypeId} {w : World} {B : Nat} {v : Value} {ls : List (List RdS.Pr)} (h : OwnSS Ts T2 w B v ls) {b : Nat} {T : TypeId} {a0 : Option Addr} {n0 c0 : Nat} (hw : Whole w b T #[.slice a0 n0 c0]) (hb : b < B) (u : Value) : OwnSS Ts T2 (w.setCell ⟨b, 0, none⟩ u) B v ls := by
  obtain ⟨us, h1, h2, h3⟩ := h
  exact ⟨us, ownsRow_setCell_below h1 (a := ⟨b, 0, none⟩) hb u, h2, fun i x l a c => ⟨(h3 i x l a c).1.setHdr hw u, (h3 i x l a c).2.setCell _ u⟩⟩
theorem AvasIn.grownTag {w w' : World} {u : Value} {l : List RdS.Pr} (h : AvasIn w u l) {T2 : TypeId} (ht : Tag T2 w u) {row : Option Nat} (hg : w.grownBy w' row) {T : TypeId} (hr : ∀ k, row = some k → ∃ cs fz, w.heap[k]? = some (.cells cs T fz)) (hTT : T ≠ T2) : AvasIn w' u l ∧ Tag T2 w' u := by
  have hblk : ∀ g, u.ownBlock = some g → w'.heap[g]? = w.heap[g]? := fun g hu => by
    obtain ⟨cs, fz, e⟩ := ht g hu
    refine hg.block g (Array.getElem?_eq_some_iff.1 e).1 (fun hc => ?_)
    obtain ⟨cs2, fz2, e2⟩ := hr g hc.symm
    rw [e] at e2
    cases e2
    exact hTT rfl
  refine ⟨?_, fun g hu => by
    obtain ⟨cs, fz, e⟩ := ht g hu
    exact ⟨cs, fz, (hblk g hu).trans e⟩⟩
  obtain ⟨a, c, rfl, hc, h⟩ := h
  refine ⟨a, c, rfl, hc, ?_⟩
  rcases h with h | ⟨g, o, rfl, hg2, h⟩
  · exact .inl h
  · have e := hblk g rfl
    exact .inr ⟨g, o, rfl, Nat.lt_of_lt_of_le hg2 hg.size, fun j q hj => ⟨(World.cell?_of_block (a := ⟨g, o + j * 2, none⟩) e).trans (h j q hj).1, (World.cell?_of_block (a := ⟨g, o + j * 2 + 1, none⟩) e).trans (h j q hj).2⟩⟩

/-- one slice of pairs more -/
theorem push_avs {w : World} {ops : Array Oper} {rest : List Oper} {o : Oper} {a : Act} {Q : Exit → Act → World → Prop} (T T2 sT : TypeId) (hTT : T ≠ T2) (hsT : Tryz.prog.underlying sT = some (.slice T)) {i0 : TypeInfo}
    (hi : Tryz.prog.info? T = some i0) (hz : i0.zero = some (.slice none 0 0)) (hsz2 : i0.size = 1) (hby : i0.bytes = 24) (hgd : o.guard = none) (s x : Operand)
    (ho : o.op = .call { callee := .builtin .append, args := #[s, x], argTypes := #[sT, sT] })
    (B : Nat) (v : Value) (ls : List (List RdS.Pr)) (hs : a.eval s = v) (hown : OwnSS T T2 w B v ls) (g : Nat) (hx : a.eval x = .slice (some ⟨g, 0, none⟩) 1 1)
    (u0 : Value) (hu0 : u0.oneCell' = true) (l : List RdS.Pr) (hc0 : w.cell? ⟨g, 0, none⟩ = some u0) (hav : AvasIn w u0 l) (htg : Tag T2 w u0) (hn : ls.length ≤ 1000000000) (hB : B ≤ w.heap.size)
    (h : ∀ v' w', OwnSS T T2 w' B v' (ls ++ [l]) → Below B w w' → w.grownBy w' v.ownBlock → wpList Tryz.prog ops Q rest (a.put o.dst v') w') : wpList Tryz.prog ops Q (o :: rest) a w := by
  obtain ⟨us, hown, hul, hel⟩ := hown
  have hrow : ∀ k, v.ownBlock = some k → ∃ cs fz, w.heap[k]? = some (.cells cs T fz) := fun k hk => by
    rcases hown.2 with ⟨e, _⟩ | ⟨g', cap, cur, e, _, hh, _⟩
    · rw [e] at hk; cases hk
    · rw [e] at hk; cases hk; exact ⟨_, _, hh⟩
  refine wpList_append_own w hgd s x _ ho B T i0 (.slice none 0 0) 1 24 hsT hi hz hsz2 hby rfl (by decide) v ls.length us hs hown ⟨g, 0, none⟩ 1 1 [u0] hx rfl
    (fun j u hj => ?_) (fun u hu => ?_) (by unfold maxLen; omega) (by omega) hB (fun v' w' h1 h2 _ => h v' w' ?_ ?_ h2)
  · have hj0 : j = 0 := by
      rcases Nat.eq_zero_or_pos j with h | h
      · exact h
      · rw [List.getElem?_eq_none (by simp; omega)] at hj; cases hj
    subst hj0
    have hadd : (⟨g, 0, none⟩ : Addr).add 0 = ⟨g, 0, none⟩ := by unfold Addr.add; split <;> simp_all
    rw [hadd, hc0]
    simpa using hj
  · rw [List.mem_singleton] at hu; subst hu; exact hu0
  · refine ⟨us ++ [u0], by rw [List.length_append]; exact h1, by simp [hul], fun i u l2 hi2 hl2 => ?_⟩
    by_cases hlt : i < us.length
    · rw [List.getElem?_append_left hlt] at hi2
      rw [List.getElem?_append_left (by omega)] at hl2
      exact (hel i u l2 hi2 hl2).1.grownTag (hel i u l2 hi2 hl2).2 h2 hrow hTT
    · have hi3 : i = us.length := by
        have := (List.getElem?_eq_some_iff.1 hi2).1
        simp at this; omega
      subst hi3
      rw [List.getElem?_append_right (Nat.le_refl _)] at hi2
      rw [hul, List.getElem?_append_right (Nat.le_refl _)] at hl2
      simp at hi2 hl2
      subst hi2; subst hl2
      exact hav.grownTag htg h2 hrow hTT
  · exact (Below.refl B w).grown h2 hB (fun k hk => (World.ownsRow.lt hown k hk).1)
end Go.Proofs.YtifjghkgmfmneaaGreatDoor
