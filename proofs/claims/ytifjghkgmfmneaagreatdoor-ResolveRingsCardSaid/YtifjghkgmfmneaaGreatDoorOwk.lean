/- Rows of the call's own, whose elements are a text and a slice: attributes, entries. Conditions: those that each theorem states. -/
import Derived.Test.YtifjghkgmfmneaaGreatDoorEnt
import Derived.Lib.OwnKind
import Derived.Deep.Onto
namespace Go.Proofs.YtifjghkgmfmneaaGreatDoor
open Go.RowKit

/-- a block below B, or of one of the types Ts -/
def okT (Ts : List TypeId) (B : Nat) (w : World) (g : Nat) : Prop := g < B ∨ ∃ cs T fz, w.heap[g]? = some (.cells cs T fz) ∧ T ∈ Ts
theorem okT.same {Ts : List TypeId} {B : Nat} {w w' : World} {g : Nat} (h : okT Ts B w g) (e : w'.heap[g]? = w.heap[g]?) : okT Ts B w' g := by
  rcases h with h | ⟨cs, T, fz, h, ht⟩
  · exact .inl h
  · exact .inr ⟨cs, T, fz, e.trans h, ht⟩
theorem okT.mono {Ts Ts' : List TypeId} {B B' : Nat} {w : World} {g : Nat} (h : okT Ts B w g) (hB : B ≤ B') (hT : ∀ T ∈ Ts, T ∈ Ts') : okT Ts' B' w g := by
  rcases h with h | ⟨cs, T, fz, h, ht⟩
  · exact .inl (Nat.lt_of_lt_of_le h hB)
  · exact .inr ⟨cs, T, fz, h, hT T ht⟩
/-- how an element lies: its text, and what its slice is -/
structure KLay (α : Type) where
  key : α → List UInt8
  El : (Nat → Prop) → World → Value → α → Prop
  keep : ∀ {ok ok' : Nat → Prop} {w w' : World} {u : Value} {x : α}, El ok w u x → w.heap.size ≤ w'.heap.size → (∀ g, g < w.heap.size → ok g → w'.heap[g]? = w.heap[g]?) → (∀ g, g < w.heap.size → ok g → ok' g) → El ok' w' u x
  one : ∀ {ok : Nat → Prop} {w : World} {u : Value} {x : α}, El ok w u x → u.oneCell' = true
def atK : KLay EnS.At := ⟨EnS.At.typ, fun ok w u x => StrsP ok w u x.vals, fun h => StrsP.keep h, fun h => by obtain ⟨a, c, rfl, _⟩ := SliceP.form h; rfl⟩
def enK : KLay EnS.En := ⟨EnS.En.name, fun ok w u x => AttrsP ok w u x.attrs, fun h => AttrsP.keep h, fun h => by obtain ⟨a, c, rfl, _⟩ := SliceP.form h; rfl⟩
def flatK {α : Type} (L : KLay α) : List α → List Value → List Value
  | x :: xs, u :: us => strV (L.key x) :: u :: flatK L xs us
  | _, _ => []
theorem flatK_at {α : Type} (L : KLay α) : ∀ (xs : List α) (us : List Value) (i : Nat) (x : α) (u : Value), xs[i]? = some x → us[i]? = some u → (flatK L xs us)[i * 2]? = some (strV (L.key x)) ∧ (flatK L xs us)[i * 2 + 1]? = some u
  | [], _, i, x, u, h, _ => by simp at h
  | _ :: _, [], i, x, u, _, h => by simp at h
  | y :: xs, z :: us, 0, x, u, h, k => by
    simp only [List.getElem?_cons_zero, Option.some.injEq] at h k
    subst h; subst k
    exact ⟨rfl, rfl⟩
  | y :: xs, z :: us, i + 1, x, u, h, k => by
    have hh := flatK_at L xs us i x u (by simpa using h) (by simpa using k)
    have e : (i + 1) * 2 = i * 2 + 1 + 1 := by omega
    rw [e]
    exact ⟨by simpa [flatK] using hh.1, by simpa [flatK] using hh.2⟩
theorem flatK_append {α : Type} (L : KLay α) (x : α) (u : Value) : ∀ (xs : List α) (us : List Value), us.length = xs.length → flatK L (xs ++ [x]) (us ++ [u]) = flatK L xs us ++ [strV (L.key x), u]
  | [], [], _ => rfl
  | [], _ :: _, h => by simp at h
  | _ :: _, [], h => by simp at h
  | y :: xs, z :: us, h => by
    have := flatK_append L x u xs us (by simpa using h)
    simp [flatK, this]
theorem flatK_set {α : Type} (L : KLay α) (v : Value) : ∀ (xs : List α) (us : List Value) (i : Nat), us.length = xs.length → (flatK L xs us).set (i * 2 + 1) v = flatK L xs (us.set i v)
  | [], [], i, _ => by simp [flatK]
  | [], _ :: _, i, h => by simp at h
  | _ :: _, [], i, h => by simp at h
  | y :: xs, z :: us, 0, _ => rfl
  | y :: xs, z :: us, i + 1, h => by
    have := flatK_set L v xs us i (by simpa using h)
    have e : (i + 1) * 2 + 1 = i * 2 + 1 + 1 + 1 := by omega
    rw [e]
    simp [flatK, this]
/-- v is a row of the call's own (element type T) of texts and slices; what these hold lies below C or in blocks of the types Ts -/
def OwnK {α : Type} (L : KLay α) (T : TypeId) (Ts : List TypeId) (C : Nat) (w : World) (B : Nat) (v : Value) (xs : List α) : Prop :=
  ∃ us : List Value, w.ownsRow B T 2 v xs.length (flatK L xs us) ∧ us.length = xs.length ∧ ∀ (i : Nat) (u : Value) (x : α), us[i]? = some u → xs[i]? = some x → L.El (okT Ts C w) w u x
theorem OwnK.empty {α : Type} (L : KLay α) (T : TypeId) (Ts : List TypeId) (C : Nat) (w : World) (B : Nat) : OwnK L T Ts C w B (.slice none 0 0) [] := ⟨[], World.ownsRow_nil w B _ 2, rfl, fun i u x h => by simp at h⟩
theorem OwnK.form {α : Type} {L : KLay α} {T : TypeId} {Ts : List TypeId} {C : Nat} {w : World} {B : Nat} {v : Value} {xs : List α} (h : OwnK L T Ts C w B v xs) : ∃ a c, v = .slice a xs.length c := by
  obtain ⟨us, h, _⟩ := h
  rcases h.2 with ⟨rfl, hn⟩ | ⟨g, cap, cur, rfl, _⟩
  · exact ⟨_, _, by rw [hn]⟩
  · exact ⟨_, _, rfl⟩
theorem OwnK.call {α : Type} {L : KLay α} {T : TypeId} {Ts : List TypeId} {C : Nat} {w w' : World} {B : Nat} {v : Value} {xs : List α} (h : OwnK L T Ts C w B v xs) (hb : Below w.heap.size w w') : OwnK L T Ts C w' B v xs := by
  obtain ⟨us, h1, h2, h3⟩ := h
  exact ⟨us, World.ownsRow.kept h1 (grown_none hb) (by cases v.ownBlock <;> simp), h2, fun i u l a b => L.keep (h3 i u l a b) hb.size (fun g hg _ => hb.block g hg) (fun g hg hok => hok.same (hb.block g hg))⟩
theorem OwnK.mono {α : Type} {L : KLay α} {T : TypeId} {Ts : List TypeId} {C : Nat} {w : World} {B B' : Nat} {v : Value} {xs : List α} (h : OwnK L T Ts C w B v xs) (hB : B' ≤ B) : OwnK L T Ts C w B' v xs := by
  obtain ⟨us, h1, h2, h3⟩ := h
  exact ⟨us, World.ownsRow.mono h1 hB, h2, h3⟩
/-- what is read of such a row -/
theorem OwnK.read {α : Type} {L : KLay α} {T : TypeId} {Ts : List TypeId} {C : Nat} {w : World} {B : Nat} {v : Value} {xs : List α} (h : OwnK L T Ts C w B v xs) (ok : Nat → Prop) (hok : ∀ g, g < w.heap.size → okT Ts C w g → ok g) (hrow : ∀ g cs, w.heap[g]? = some (.cells cs T (0, 0)) → B ≤ g → ok g) :
    SliceP 2 (fun w g o x => w.cell? ⟨g, o, none⟩ = some (strV (L.key x)) ∧ ∃ u, w.cell? ⟨g, o + 1, none⟩ = some u ∧ L.El ok w u x) ok w v xs := by
  obtain ⟨us, h1, h2, h3⟩ := h
  rcases h1.2 with ⟨rfl, hn⟩ | ⟨g, cap, cur, rfl, hg, hh, hn, hm, hsz, htk⟩
  · exact ⟨none, 0, by rw [hn], by omega, .inl (List.eq_nil_of_length_eq_zero hn)⟩
  · refine ⟨some ⟨g, 0, none⟩, cap, rfl, hn, .inr ⟨g, 0, rfl, (Array.getElem?_eq_some_iff.1 hh).1, hrow g cur hh hg, fun j x hj => ?_⟩⟩
    have hlt : j < us.length := by rw [h2]; exact (List.getElem?_eq_some_iff.1 hj).1
    have hu := List.getElem?_eq_getElem hlt
    obtain ⟨f0, f1⟩ := flatK_at L xs us j x _ hj hu
    have c0 := World.ownsRow.cells h1 (g := g) rfl (j * 2) _ f0
    have c1 := World.ownsRow.cells h1 (g := g) rfl (j * 2 + 1) _ f1
    have hadd : ∀ i, (⟨g, 0, none⟩ : Addr).add i = ⟨g, 0 + i, none⟩ := fun i => by unfold Addr.add; split <;> simp_all
    rw [hadd] at c0 c1
    exact ⟨c0, us[j], c1, L.keep (h3 j _ x hu hj) (Nat.le_refl _) (fun _ _ _ => rfl) hok⟩
theorem OwnK.attrs {T : TypeId} {Ts : List TypeId} {C : Nat} {w : World} {B : Nat} {v : Value} {xs : List EnS.At} (h : OwnK atK T Ts C w B v xs) : AttrsIn w v xs := h.read (fun _ => True) (fun _ _ _ => trivial) (fun _ _ _ _ => trivial)
theorem OwnK.ens {T : TypeId} {Ts : List TypeId} {C : Nat} {w : World} {B : Nat} {v : Value} {xs : List EnS.En} (h : OwnK enK T Ts C w B v xs) : EnsIn w v xs := h.read (fun _ => True) (fun _ _ _ => trivial) (fun _ _ _ _ => trivial)
theorem OwnK.attrsB {T : TypeId} {Ts Ts' : List TypeId} {C : Nat} {w : World} {B : Nat} {v : Value} {xs : List EnS.At} (h : OwnK atK T Ts C w B v xs) (hT : T ∈ Ts') (hs : ∀ t ∈ Ts, t ∈ Ts') : AttrsP (okT Ts' C w) w v xs :=
  h.read (okT Ts' C w) (fun _g _ hg => hg.mono (Nat.le_refl _) hs) (fun _g cs e _ => .inr ⟨cs, T, _, e, hT⟩)
/-- what else is in the memory while the row grows -/
theorem ownK_row {α : Type} {L : KLay α} {T : TypeId} {Ts : List TypeId} {w w' : World} {C B n : Nat} {v : Value} {xs : List Value} (hC : C ≤ B) (hT : T ∉ Ts) (h1 : w.ownsRow B T 2 v n xs) (hg : w.grownBy w' v.ownBlock) {u : Value} {x : α} (h : L.El (okT Ts C w) w u x) : L.El (okT Ts C w') w' u x := by
  have hblk : ∀ g, g < w.heap.size → okT Ts C w g → w'.heap[g]? = w.heap[g]? := fun g hlt hok => by
    refine hg.block g hlt (fun e => ?_)
    rcases h1.2 with ⟨rfl, _⟩ | ⟨k, cap, cur, rfl, hk, hh, _⟩
    · cases e
    · cases e
      rcases hok with hok | ⟨cs, T', fz, hok, ht⟩
      · exact absurd (Nat.le_trans hC hk) (Nat.not_le_of_lt hok)
      · rw [hh] at hok
        cases hok
        exact hT ht
  exact L.keep h hg.size hblk (fun g hlt hok => hok.same (hblk g hlt hok))

theorem OwnK.grow {α : Type} {L : KLay α} {T : TypeId} {Ts : List TypeId} {C B : Nat} (hC : C ≤ B) (hT : T ∉ Ts) {w w' : World} {v v' : Value} {xs : List α} {us : List Value} (h1 : w.ownsRow B T 2 v xs.length (flatK L xs us)) (h2 : us.length = xs.length)
    (h3 : ∀ (i : Nat) (u : Value) (x : α), us[i]? = some u → xs[i]? = some x → L.El (okT Ts C w) w u x) {x : α} {u : Value} (hx : L.El (okT Ts C w) w u x)
    (h4 : w'.ownsRow B T 2 v' (xs.length + 1) (flatK L xs us ++ [strV (L.key x), u])) (hg : w.grownBy w' v.ownBlock) : OwnK L T Ts C w' B v' (xs ++ [x]) := by
  refine ⟨us ++ [u], by rw [List.length_append, flatK_append L x u xs us h2]; exact h4, by simp [h2], fun i z y hi hy => ?_⟩
  by_cases hlt : i < us.length
  · rw [List.getElem?_append_left hlt] at hi
    rw [List.getElem?_append_left (by omega)] at hy
    exact ownK_row hC hT h1 hg (h3 i z y hi hy)
  · have hi3 : i = us.length := by
      have := (List.getElem?_eq_some_iff.1 hi).1
      simp at this; omega
    subst hi3
    rw [List.getElem?_append_right (Nat.le_refl _)] at hi
    rw [h2, List.getElem?_append_right (Nat.le_refl _)] at hy
    simp at hi hy
    subst hi; subst hy
    exact ownK_row hC hT h1 hg hx
theorem two_at {w : World} {g : Nat} {k u : Value} (h0 : w.cell? ⟨g, 0, none⟩ = some k) (h1 : w.cell? ⟨g, 1, none⟩ = some u) : ∀ (j : Nat) (z : Value), [k, u][j]? = some z → w.cell? ((⟨g, 0, none⟩ : Addr).add j) = some z := fun j z hj => by
  have hadd : (⟨g, 0, none⟩ : Addr).add j = ⟨g, 0 + j, none⟩ := by unfold Addr.add; split <;> simp_all
  rw [hadd]
  match j, hj with
  | 0, hj => simp at hj; subst hj; exact h0
  | 1, hj => simp at hj; subst hj; exact h1
  | j + 2, hj => simp at hj
/-- an element more -/
theorem push_k {α : Type} (L : KLay α) {w : World} {ops : Array Oper} {rest : List Oper} {o : Oper} {a : Act} {Q : Exit → Act → World → Prop} (T sT : TypeId) (Ts : List TypeId) (hT : T ∉ Ts) (hsT : Tryz.prog.underlying sT = some (.slice T)) {i0 : TypeInfo} {z : Value}
    (hi : Tryz.prog.info? T = some i0) (hz : i0.zero = some z) (hsz2 : i0.size = 2) (hby : i0.bytes = 40) (hzc : z.cells.size = 2) (hgd : o.guard = none) (s x : Operand)
    (ho : o.op = .call { callee := .builtin .append, args := #[s, x], argTypes := #[sT, sT] })
    (B : Nat) {C : Nat} (hC : C ≤ B) (v : Value) (xs : List α) (hs : a.eval s = v) (hown : OwnK L T Ts C w B v xs) (g : Nat) (hx : a.eval x = .slice (some ⟨g, 0, none⟩) 1 1)
    (y : α) (u0 : Value) (hc0 : w.cell? ⟨g, 0, none⟩ = some (strV (L.key y))) (hc1 : w.cell? ⟨g, 1, none⟩ = some u0) (hy : L.El (okT Ts C w) w u0 y) (hn : xs.length ≤ 1000000000) (hB : B ≤ w.heap.size)
    (h : ∀ v' w', OwnK L T Ts C w' B v' (xs ++ [y]) → Below B w w' → w.grownBy w' v.ownBlock → wpList Tryz.prog ops Q rest (a.put o.dst v') w') : wpList Tryz.prog ops Q (o :: rest) a w := by
  obtain ⟨us, h1, h2, h3⟩ := hown
  exact wpList_append_own w hgd s x _ ho B T i0 z 2 40 hsT hi hz hsz2 hby hzc (by decide) v xs.length _ hs h1 ⟨g, 0, none⟩ 1 1 [strV (L.key y), u0] hx rfl
    (two_at hc0 hc1) (fun u hu => by
      rcases List.mem_cons.1 hu with rfl | hu
      · rfl
      · rw [List.mem_singleton] at hu; subst hu; exact L.one hy) (by unfold maxLen; omega) (by omega) hB
    (fun v' w' h4 h5 _ => h v' w' (OwnK.grow hC hT h1 h2 h3 hy h4 h5) ((Below.refl B w).grown h5 hB (fun k hk => (World.ownsRow.lt h1 k hk).1)) h5)
/-- an element more, in a region that draws its order -/
theorem wp_k {α : Type} (L : KLay α) {w : World} {o : Oper} {a : Act} {K : Act → World → Prop} {Q : Exit → Act → World → Prop} (T sT : TypeId) (Ts : List TypeId) (hT : T ∉ Ts) (hsT : Tryz.prog.underlying sT = some (.slice T)) {i0 : TypeInfo} {z : Value}
    (hi : Tryz.prog.info? T = some i0) (hz : i0.zero = some z) (hsz2 : i0.size = 2) (hby : i0.bytes = 40) (hzc : z.cells.size = 2) (s x : Operand)
    (ho : o.op = .call { callee := .builtin .append, args := #[s, x], argTypes := #[sT, sT] })
    (B : Nat) {C : Nat} (hC : C ≤ B) (v : Value) (xs : List α) (hs : a.eval s = v) (hown : OwnK L T Ts C w B v xs) (g : Nat) (hx : a.eval x = .slice (some ⟨g, 0, none⟩) 1 1)
    (y : α) (u0 : Value) (hc0 : w.cell? ⟨g, 0, none⟩ = some (strV (L.key y))) (hc1 : w.cell? ⟨g, 1, none⟩ = some u0) (hy : L.El (okT Ts C w) w u0 y) (hn : xs.length ≤ 1000000000) (hB : B ≤ w.heap.size)
    (h : ∀ v' w', OwnK L T Ts C w' B v' (xs ++ [y]) → Below B w w' → w.grownBy w' v.ownBlock → K (a.put o.dst v') w') : Oper.wp Tryz.prog o a w K Q := by
  obtain ⟨us, h1, h2, h3⟩ := hown
  exact wp_append_own w s x _ ho B T i0 z 2 40 hsT hi hz hsz2 hby hzc (by decide) v xs.length _ hs h1 ⟨g, 0, none⟩ 1 1 [strV (L.key y), u0] hx rfl
    (two_at hc0 hc1) (fun u hu => by
      rcases List.mem_cons.1 hu with rfl | hu
      · rfl
      · rw [List.mem_singleton] at hu; subst hu; exact L.one hy) (by unfold maxLen; omega) (by omega) hB
    (fun v' w' h4 h5 _ => h v' w' (OwnK.grow hC hT h1 h2 h3 hy h4 h5) ((Below.refl B w).grown h5 hB (fun k hk => (World.ownsRow.lt h1 k hk).1)) h5)
/-- an element more, in a region that draws its order -/
theorem step_k {α : Type} (L : KLay α) {w : World} {ops : Array Oper} {o : Oper} {a : Act} {K : Act → World → Prop} {Q : Exit → Act → World → Prop} {E : Prop} (T sT : TypeId) (Ts : List TypeId) (hT : T ∉ Ts) (hsT : Tryz.prog.underlying sT = some (.slice T)) {i0 : TypeInfo} {z : Value}
    (hi : Tryz.prog.info? T = some i0) (hz : i0.zero = some z) (hsz2 : i0.size = 2) (hby : i0.bytes = 40) (hzc : z.cells.size = 2) (hgd : o.guard = none) (s x : Operand)
    (ho : o.op = .call { callee := .builtin .append, args := #[s, x], argTypes := #[sT, sT] })
    (B : Nat) {C : Nat} (hC : C ≤ B) (v : Value) (xs : List α) (hs : a.eval s = v) (hown : OwnK L T Ts C w B v xs) (g : Nat) (hx : a.eval x = .slice (some ⟨g, 0, none⟩) 1 1)
    (y : α) (u0 : Value) (hc0 : w.cell? ⟨g, 0, none⟩ = some (strV (L.key y))) (hc1 : w.cell? ⟨g, 1, none⟩ = some u0) (hy : L.El (okT Ts C w) w u0 y) (hn : xs.length ≤ 1000000000) (hB : B ≤ w.heap.size)
    (h : ∀ v' w', OwnK L T Ts C w' B v' (xs ++ [y]) → Below B w w' → w.grownBy w' v.ownBlock → K (a.put o.dst v') w') : if Region.wanted o (yielded ops a.tmps) = true then Oper.wp Tryz.prog o a w K Q else E := by
  have hw : Region.wanted o (yielded ops a.tmps) = true := by simp [Region.wanted, hgd]
  rw [if_pos hw]
  obtain ⟨us, h1, h2, h3⟩ := hown
  exact wp_append_own w s x _ ho B T i0 z 2 40 hsT hi hz hsz2 hby hzc (by decide) v xs.length _ hs h1 ⟨g, 0, none⟩ 1 1 [strV (L.key y), u0] hx rfl
    (two_at hc0 hc1) (fun u hu => by
      rcases List.mem_cons.1 hu with rfl | hu
      · rfl
      · rw [List.mem_singleton] at hu; subst hu; exact L.one hy) (by unfold maxLen; omega) (by omega) hB
    (fun v' w' h4 h5 _ => h v' w' (OwnK.grow hC hT h1 h2 h3 hy h4 h5) ((Below.refl B w).grown h5 hB (fun k hk => (World.ownsRow.lt h1 k hk).1)) h5)
/-- an element's slice is another one -/
theorem OwnK.stored {α : Type} {L : KLay α} {T : TypeId} {Ts : List TypeId} {C B : Nat} (hC : C ≤ B) (hT : T ∉ Ts) {w : World} {g cap n : Nat} {xs : List α} (hn : n = xs.length) (h : OwnK L T Ts C w B (.slice (some ⟨g, 0, none⟩) n cap) xs) (i : Nat) (y : α) (hk : ∀ x, xs[i]? = some x → L.key y = L.key x) (u : Value)
    (hu : L.El (okT Ts C w) w u y) : OwnK L T Ts C (w.setCell ⟨g, i * 2 + 1, none⟩ u) B (.slice (some ⟨g, 0, none⟩) n cap) (xs.set i y) ∧ Below B w (w.setCell ⟨g, i * 2 + 1, none⟩ u) := by
  subst hn
  obtain ⟨us, h1, h2, h3⟩ := h
  obtain ⟨s1, s2⟩ := World.ownsRow.stored h1 (i * 2 + 1) u
  have hgB : B ≤ g := (World.ownsRow.lt h1 g rfl).1
  have hfl : ∀ (xs : List α) (us : List Value) (i : Nat), (∀ x, xs[i]? = some x → L.key y = L.key x) → flatK L (xs.set i y) us = flatK L xs us := by
    intro xs
    induction xs with
    | nil => intro us i _; rfl
    | cons x xs ih =>
      intro us i hk
      cases us with
      | nil => cases i <;> rfl
      | cons z us =>
        cases i with
        | zero => simp [flatK, hk x rfl]
        | succ i => simp [flatK, ih us i (fun x hx => hk x (by simpa using hx))]
  refine ⟨⟨us.set i u, ?_, by simp [h2], fun j z x hj hx => ?_⟩, (Below.refl B w).setCell (p := ⟨g, i * 2 + 1, none⟩) hgB u⟩
  · rw [List.length_set, hfl xs _ i hk, ← flatK_set L u xs us i h2]; exact s1
  · by_cases hij : i = j
    · subst hij
      rw [List.getElem?_set_self' ] at hj hx
      cases hui : us[i]? with
      | none => rw [hui] at hj; simp at hj
      | some _ =>
        cases hxi : xs[i]? with
        | none => rw [hxi] at hx; simp at hx
        | some _ =>
          rw [hui] at hj; rw [hxi] at hx
          simp at hj hx
          subst hj; subst hx
          exact ownK_row hC hT h1 s2 hu
    · rw [List.getElem?_set_ne hij] at hj hx
      exact ownK_row hC hT h1 s2 (h3 j z x hj hx)
end Go.Proofs.YtifjghkgmfmneaaGreatDoor
