/- Rows of the call's own, whose elements are a text and a slice: attributes, entries. Conditions: those that each theorem states. The walks of entries that are copied: slices.Clone of attributes, the program's Copy. Conditions: an entry has at most 1048576 attributes of as many values each. The walk of the program's Copy of an entry. Conditions: an entry has at most 1048576 attributes of as many values each. -/
import Derived.Lib.OwnKind
import Derived.Deep.Onto
import Derived.Shelf.SlicesE.Clone
import Derived.BigQuiet
import Derived.Deep.DrawnRows
import Derived.Laws.ResultCell
import Derived.Test.YtmnhgbkdahdoiaaGreatDoorMAva
import Derived.Test.YtmnhgbkdahdoiaaGreatDoorMEna
namespace Go.Proofs.YtmnhgbkdahdoiaaGreatDoor
open Go.RowKit

/-- a block below B, or of one of the types Ts -/
def okT (Ts : List TypeId) (B : Nat) (w : World) (g : Nat) : Prop := g < B ∨ ∃ cs T fz, w.heap[g]? = some (.cells cs T fz) ∧ T ∈ Ts
theorem okT.same {Ts : List TypeId} {B : Nat} {w w' : World} {g : Nat} (h : okT Ts B w g) (e : w'.heap[g]? = w.heap[g]?) : okT Ts B w' g := by
  rcases h with h | ⟨cs, T, fz, h, ht⟩
  · exact .inl h
  · exact .inr ⟨cs, T, fz, e.trans h, ht⟩
theorem okT.mono {Ts Ts' : List TypeId} {B B' : Nat} {w : World} {g : Nat} (h : okT Ts B w g) (hB : B ≤ B') (hT : ∀ T ∈ Ts, T ∈ Ts') : okT Ts' B' w g := by
  rcases h with h | ⟨cs, T, fz, h, ht⟩
  · exact .inl (Nat.lt_of_lt_of_le h hB)
  · exact .inr ⟨cs, T, fz, h, hT T ht⟩
/-- how an element lies: its text, and what its slice is -/
structure KLay (α : Type) where
  key : α → List UInt8
  El : (Nat → Prop) → World → Value → α → Prop
  keep : ∀ {ok ok' : Nat → Prop} {w w' : World} {u : Value} {x : α}, El ok w u x → w.heap.size ≤ w'.heap.size → (∀ g, g < w.heap.size → ok g → w'.heap[g]? = w.heap[g]?) → (∀ g, g < w.heap.size → ok g → ok' g) → El ok' w' u x
  one : ∀ {ok : Nat → Prop} {w : World} {u : Value} {x : α}, El ok w u x → u.oneCell' = true
def atK : KLay EnS.At := ⟨EnS.At.typ, fun ok w u x => StrsP ok w u x.vals, fun h => StrsP.keep h, fun h => by obtain ⟨a, c, rfl, _⟩ := SliceP.form h; rfl⟩
def enK : KLay EnS.En := ⟨EnS.En.name, fun ok w u x => AttrsP ok w u x.attrs, fun h => AttrsP.keep h, fun h => by obtain ⟨a, c, rfl, _⟩ := SliceP.form h; rfl⟩
def flatK {α : Type} (L : KLay α) : List α → List Value → List Value
  | x :: xs, u :: us => strV (L.key x) :: u :: flatK L xs us
  | _, _ => []
theorem flatK_at {α : Type} (L : KLay α) : ∀ (xs : List α) (us : List Value) (i : Nat) (x : α) (u : Value), xs[i]? = some x → us[i]? = some u → (flatK L xs us)[i * 2]? = some (strV (L.key x)) ∧ (flatK L xs us)[i * 2 + 1]? = some u
  | [], _, i, x, u, h, _ => by simp at h
  | _ :: _, [], i, x, u, _, h => by simp at h
  | y :: xs, z :: us, 0, x, u, h, k => by
    simp only [List.getElem?_cons_zero, Option.some.injEq] at h k
    subst h; subst k
    exact ⟨rfl, rfl⟩
  | y :: xs, z :: us, i + 1, x, u, h, k => by
    have hh := flatK_at L xs us i x u (by simpa using h) (by simpa using k)
    have e : (i + 1) * 2 = i * 2 + 1 + 1 := by omega
    rw [e]
    exact ⟨by simpa [flatK] using hh.1, by simpa [flatK] using hh.2⟩
theorem flatK_append {α : Type} (L : KLay α) (x : α) (u : Value) : ∀ (xs : List α) (us : List Value), us.length = xs.length → flatK L (xs ++ [x]) (us ++ [u]) = flatK L xs us ++ [strV (L.key x), u]
  | [], [], _ => rfl
  | [], _ :: _, h => by simp at h
  | _ :: _, [], h => by simp at h
  | y :: xs, z :: us, h => by
    have := flatK_append L x u xs us (by simpa using h)
    simp [flatK, this]
theorem flatK_set {α : Type} (L : KLay α) (v : Value) : ∀ (xs : List α) (us : List Value) (i : Nat), us.length = xs.length → (flatK L xs us).set (i * 2 + 1) v = flatK L xs (us.set i v)
  | [], [], i, _ => by simp [flatK]
  | [], _ :: _, i, h => by simp at h
  | _ :: _, [], i, h => by simp at h
  | y :: xs, z :: us, 0, _ => rfl
  | y :: xs, z :: us, i + 1, h => by
    have := flatK_set L v xs us i (by simpa using h)
    have e : (i + 1) * 2 + 1 = i * 2 + 1 + 1 + 1 := by omega
    rw [e]
    simp [flatK, this]
/-- v is a row of the call's own (element type T) of texts and slices; what these hold lies below C or in blocks of the types Ts -/
def OwnK {α : Type} (L : KLay α) (T : TypeId) (Ts : List TypeId) (C : Nat) (w : World) (B : Nat) (v : Value) (xs : List α) : Prop :=
  ∃ us : List Value, w.ownsRow B T 2 v xs.length (flatK L xs us) ∧ us.length = xs.length ∧ ∀ (i : Nat) (u : Value) (x : α), us[i]? = some u → xs[i]? = some x → L.El (okT Ts C w) w u x
theorem OwnK.empty {α : Type} (L : KLay α) (T : TypeId) (Ts : List TypeId) (C : Nat) (w : World) (B : Nat) : OwnK L T Ts C w B (.slice none 0 0) [] := ⟨[], World.ownsRow_nil w B _ 2, rfl, fun i u x h => by simp at h⟩
theorem OwnK.form {α : Type} {L : KLay α} {T : TypeId} {Ts : List TypeId} {C : Nat} {w : World} {B : Nat} {v : Value} {xs : List α} (h : OwnK L T Ts C w B v xs) : ∃ a c, v = .slice a xs.length c := by
  obtain ⟨us, h, _⟩ := h
  rcases h.2 with ⟨rfl, hn⟩ | ⟨g, cap, cur, rfl, _⟩
  · exact ⟨_, _, by rw [hn]⟩
  · exact ⟨_, _, rfl⟩
theorem OwnK.call {α : Type} {L : KLay α} {T : TypeId} {Ts : List TypeId} {C : Nat} {w w' : World} {B : Nat} {v : Value} {xs : List α} (h : OwnK L T Ts C w B v xs) (hb : Below w.heap.size w w') : OwnK L T Ts C w' B v xs := by
  obtain ⟨us, h1, h2, h3⟩ := h
  exact ⟨us, World.ownsRow.kept h1 (grown_none hb) (by cases v.ownBlock <;> simp), h2, fun i u l a b => L.keep (h3 i u l a b) hb.size (fun g hg _ => hb.block g hg) (fun g hg hok => hok.same (hb.block g hg))⟩
theorem OwnK.mono {α : Type} {L : KLay α} {T : TypeId} {Ts : List TypeId} {C : Nat} {w : World} {B B' : Nat} {v : Value} {xs : List α} (h : OwnK L T Ts C w B v xs) (hB : B' ≤ B) : OwnK L T Ts C w B' v xs := by
  obtain ⟨us, h1, h2, h3⟩ := h
  exact ⟨us, World.ownsRow.mono h1 hB, h2, h3⟩
/-- what is read of such a row -/
theorem OwnK.read {α : Type} {L : KLay α} {T : TypeId} {Ts : List TypeId} {C : Nat} {w : World} {B : Nat} {v : Value} {xs : List α} (h : OwnK L T Ts C w B v xs) (ok : Nat → Prop) (hok : ∀ g, g < w.heap.size → okT Ts C w g → ok g) (hrow : ∀ g cs, w.heap[g]? = some (.cells cs T (0, 0)) → B ≤ g → ok g) :
    SliceP 2 (fun w g o x => w.cell? ⟨g, o, none⟩ = some (strV (L.key x)) ∧ ∃ u, w.cell? ⟨g, o + 1, none⟩ = some u ∧ L.El ok w u x) ok w v xs := by
  obtain ⟨us, h1, h2, h3⟩ := h
  rcases h1.2 with ⟨rfl, hn⟩ | ⟨g, cap, cur, rfl, hg, hh, hn, hm, hsz, htk⟩
  · exact ⟨none, 0, by rw [hn], by omega, .inl (List.eq_nil_of_length_eq_zero hn)⟩
  · refine ⟨some ⟨g, 0, none⟩, cap, rfl, hn, .inr ⟨g, 0, rfl, (Array.getElem?_eq_some_iff.1 hh).1, hrow g cur hh hg, fun j x hj => ?_⟩⟩
    have hlt : j < us.length := by rw [h2]; exact (List.getElem?_eq_some_iff.1 hj).1
    have hu := List.getElem?_eq_getElem hlt
    obtain ⟨f0, f1⟩ := flatK_at L xs us j x _ hj hu
    have c0 := World.ownsRow.cells h1 (g := g) rfl (j * 2) _ f0
    have c1 := World.ownsRow.cells h1 (g := g) rfl (j * 2 + 1) _ f1
    have hadd : ∀ i, (⟨g, 0, none⟩ : Addr).add i = ⟨g, 0 + i, none⟩ := fun i => by unfold Addr.add; split <;> simp_all
    rw [hadd] at c0 c1
    exact ⟨c0, us[j], c1, L.keep (h3 j _ x hu hj) (Nat.le_refl _) (fun _ _ _ => rfl) hok⟩
theorem OwnK.attrs {T : TypeId} {Ts : List TypeId} {C : Nat} {w : World} {B : Nat} {v : Value} {xs : List EnS.At} (h : OwnK atK T Ts C w B v xs) : AttrsIn w v xs := h.read (fun _ => True) (fun _ _ _ => trivial) (fun _ _ _ _ => trivial)
theorem OwnK.ens {T : TypeId} {Ts : List TypeId} {C : Nat} {w : World} {B : Nat} {v : Value} {xs : List EnS.En} (h : OwnK enK T Ts C w B v xs) : EnsIn w v xs := h.read (fun _ => True) (fun _ _ _ => trivial) (fun _ _ _ _ => trivial)
/-- what else is in the memory while the row grows -/
theorem ownK_row {α : Type} {L : KLay α} {T : TypeId} {Ts : List TypeId} {w w' : World} {C B n : Nat} {v : Value} {xs : List Value} (hC : C ≤ B) (hT : T ∉ Ts) (h1 : w.ownsRow B T 2 v n xs) (hg : w.grownBy w' v.ownBlock) {u : Value} {x : α} (h : L.El (okT Ts C w) w u x) : L.El (okT Ts C w') w' u x := by
  have hblk : ∀ g, g < w.heap.size → okT Ts C w g → w'.heap[g]? = w.heap[g]? := fun g hlt hok => by
    refine hg.block g hlt (fun e => ?_)
    rcases h1.2 with ⟨rfl, _⟩ | ⟨k, cap, cur, rfl, hk, hh, _⟩
    · cases e
    · cases e
      rcases hok with hok | ⟨cs, T', fz, hok, ht⟩
      · exact absurd (Nat.le_trans hC hk) (Nat.not_le_of_lt hok)
      · rw [hh] at hok
        cases hok
        exact hT ht
  exact L.keep h hg.size hblk (fun g hlt hok => hok.same (hblk g hlt hok))

theorem OwnK.grow {α : Type} {L : KLay α} {T : TypeId} {Ts : List TypeId} {C B : Nat} (hC : C ≤ B) (hT : T ∉ Ts) {w w' : World} {v v' : Value} {xs : List α} {us : List Value} (h1 : w.ownsRow B T 2 v xs.length (flatK L xs us)) (h2 : us.length = xs.length)
    (h3 : ∀ (i : Nat) (u : Value) (x : α), us[i]? = some u → xs[i]? = some x → L.El (okT Ts C w) w u x) {x : α} {u : Value} (hx : L.El (okT Ts C w) w u x)
    (h4 : w'.ownsRow B T 2 v' (xs.length + 1) (flatK L xs us ++ [strV (L.key x), u])) (hg : w.grownBy w' v.ownBlock) : OwnK L T Ts C w' B v' (xs ++ [x]) := by
  refine ⟨us ++ [u], by rw [List.length_append, flatK_append L x u xs us h2]; exact h4, by simp [h2], fun i z y hi hy => ?_⟩
  by_cases hlt : i < us.length
  · rw [List.getElem?_append_left hlt] at hi
    rw [List.getElem?_append_left (by omega)] at hy
    exact ownK_row hC hT h1 hg (h3 i z y hi hy)
  · have hi3 : i = us.length := by
      have := (List.getElem?_eq_some_iff.1 hi).1
      simp at this; omega
    subst hi3
    rw [List.getElem?_append_right (Nat.le_refl _)] at hi
    rw [h2, List.getElem?_append_right (Nat.le_refl _)] at hy
    simp at hi hy
    subst hi; subst hy
    exact ownK_row hC hT h1 hg hx
theorem two_at {w : World} {g : Nat} {k u : Value} (h0 : w.cell? ⟨g, 0, none⟩ = some k) (h1 : w.cell? ⟨g, 1, none⟩ = some u) : ∀ (j : Nat) (z : Value), [k, u][j]? = some z → w.cell? ((⟨g, 0, none⟩ : Addr).add j) = some z := fun j z hj => by
  have hadd : (⟨g, 0, none⟩ : Addr).add j = ⟨g, 0 + j, none⟩ := by unfold Addr.add; split <;> simp_all
  rw [hadd]
  match j, hj with
  | 0, hj => simp at hj; subst hj; exact h0
  | 1, hj => simp at hj; subst hj; exact h1
  | j + 2, hj => simp at hj
/-- an element more -/
theorem push_k {α : Type} (L : KLay α) {w : World} {ops : Array Oper} {rest : List Oper} {o : Oper} {a : Act} {Q : Exit → Act → World → Prop} (T sT : TypeId) (Ts : List TypeId) (hT : T ∉ Ts) (hsT : Tryz.prog.underlying sT = some (.slice T)) {i0 : TypeInfo} {z : Value}
    (hi : Tryz.prog.info? T = some i0) (hz : i0.zero = some z) (hsz2 : i0.size = 2) (hby : i0.bytes = 40) (hzc : z.cells.size = 2) (hgd : o.guard = none) (s x : Operand)
    (ho : o.op = .call { callee := .builtin .append, args := #[s, x], argTypes := #[sT, sT] })
    (B : Nat) {C : Nat} (hC : C ≤ B) (v : Value) (xs : List α) (hs : a.eval s = v) (hown : OwnK L T Ts C w B v xs) (g : Nat) (hx : a.eval x = .slice (some ⟨g, 0, none⟩) 1 1)
    (y : α) (u0 : Value) (hc0 : w.cell? ⟨g, 0, none⟩ = some (strV (L.key y))) (hc1 : w.cell? ⟨g, 1, none⟩ = some u0) (hy : L.El (okT Ts C w) w u0 y) (hn : xs.length ≤ 1000000000) (hB : B ≤ w.heap.size)
    (h : ∀ v' w', OwnK L T Ts C w' B v' (xs ++ [y]) → Below B w w' → w.grownBy w' v.ownBlock → wpList Tryz.prog ops Q rest (a.put o.dst v') w') : wpList Tryz.prog ops Q (o :: rest) a w := by
  obtain ⟨us, h1, h2, h3⟩ := hown
  exact wpList_append_own w hgd s x _ ho B T i0 z 2 40 hsT hi hz hsz2 hby hzc (by decide) v xs.length _ hs h1 ⟨g, 0, none⟩ 1 1 [strV (L.key y), u0] hx rfl
    (two_at hc0 hc1) (fun u hu => by
      rcases List.mem_cons.1 hu with rfl | hu
      · rfl
      · rw [List.mem_singleton] at hu; subst hu; exact L.one hy) (by unfold maxLen; omega) (by omega) hB
    (fun v' w' h4 h5 _ => h v' w' (OwnK.grow hC hT h1 h2 h3 hy h4 h5) ((Below.refl B w).grown h5 hB (fun k hk => (World.ownsRow.lt h1 k hk).1)) h5)
/-- an element more, in a region that draws its order -/
theorem wp_k {α : Type} (L : KLay α) {w : World} {o : Oper} {a : Act} {K : Act → World → Prop} {Q : Exit → Act → World → Prop} (T sT : TypeId) (Ts : List TypeId) (hT : T ∉ Ts) (hsT : Tryz.prog.underlying sT = some (.slice T)) {i0 : TypeInfo} {z : Value}
    (hi : Tryz.prog.info? T = some i0) (hz : i0.zero = some z) (hsz2 : i0.size = 2) (hby : i0.bytes = 40) (hzc : z.cells.size = 2) (s x : Operand)
    (ho : o.op = .call { callee := .builtin .append, args := #[s, x], argTypes := #[sT, sT] })
    (B : Nat) {C : Nat} (hC : C ≤ B) (v : Value) (xs : List α) (hs : a.eval s = v) (hown : OwnK L T Ts C w B v xs) (g : Nat) (hx : a.eval x = .slice (some ⟨g, 0, none⟩) 1 1)
    (y : α) (u0 : Value) (hc0 : w.cell? ⟨g, 0, none⟩ = some (strV (L.key y))) (hc1 : w.cell? ⟨g, 1, none⟩ = some u0) (hy : L.El (okT Ts C w) w u0 y) (hn : xs.length ≤ 1000000000) (hB : B ≤ w.heap.size)
    (h : ∀ v' w', OwnK L T Ts C w' B v' (xs ++ [y]) → Below B w w' → w.grownBy w' v.ownBlock → K (a.put o.dst v') w') : Oper.wp Tryz.prog o a w K Q := by
  obtain ⟨us, h1, h2, h3⟩ := hown
  exact wp_append_own w s x _ ho B T i0 z 2 40 hsT hi hz hsz2 hby hzc (by decide) v xs.length _ hs h1 ⟨g, 0, none⟩ 1 1 [strV (L.key y), u0] hx rfl
    (two_at hc0 hc1) (fun u hu => by
      rcases List.mem_cons.1 hu with rfl | hu
      · rfl
      · rw [List.mem_singleton] at hu; subst hu; exact L.one hy) (by unfold maxLen; omega) (by omega) hB
    (fun v' w' h4 h5 _ => h v' w' (OwnK.grow hC hT h1 h2 h3 hy h4 h5) ((Below.refl B w).grown h5 hB (fun k hk => (World.ownsRow.lt h1 k hk).1)) h5)
/-- an element's slice is another one -/
theorem OwnK.stored {α : Type} {L : KLay α} {T : TypeId} {Ts : List TypeId} {C B : Nat} (hC : C ≤ B) (hT : T ∉ Ts) {w : World} {g cap n : Nat} {xs : List α} (hn : n = xs.length) (h : OwnK L T Ts C w B (.slice (some ⟨g, 0, none⟩) n cap) xs) (i : Nat) (y : α) (hk : ∀ x, xs[i]? = some x → L.key y = L.key x) (u : Value)
    (hu : L.El (okT Ts C w) w u y) : OwnK L T Ts C (w.setCell ⟨g, i * 2 + 1, none⟩ u) B (.slice (some ⟨g, 0, none⟩) n cap) (xs.set i y) ∧ Below B w (w.setCell ⟨g, i * 2 + 1, none⟩ u) := by
  subst hn
  obtain ⟨us, h1, h2, h3⟩ := h
  obtain ⟨s1, s2⟩ := World.ownsRow.stored h1 (i * 2 + 1) u
  have hgB : B ≤ g := (World.ownsRow.lt h1 g rfl).1
  have hfl : ∀ (xs : List α) (us : List Value) (i : Nat), (∀ x, xs[i]? = some x → L.key y = L.key x) → flatK L (xs.set i y) us = flatK L xs us := by
    intro xs
    induction xs with
    | nil => intro us i _; rfl
    | cons x xs ih =>
      intro us i hk
      cases us with
      | nil => cases i <;> rfl
      | cons z us =>
        cases i with
        | zero => simp [flatK, hk x rfl]
        | succ i => simp [flatK, ih us i (fun x hx => hk x (by simpa using hx))]
  refine ⟨⟨us.set i u, ?_, by simp [h2], fun j z x hj hx => ?_⟩, (Below.refl B w).setCell (p := ⟨g, i * 2 + 1, none⟩) hgB u⟩
  · rw [List.length_set, hfl xs _ i hk, ← flatK_set L u xs us i h2]; exact s1
  · by_cases hij : i = j
    · subst hij
      rw [List.getElem?_set_self' ] at hj hx
      cases hui : us[i]? with
      | none => rw [hui] at hj; simp at hj
      | some _ =>
        cases hxi : xs[i]? with
        | none => rw [hxi] at hx; simp at hx
        | some _ =>
          rw [hui] at hj; rw [hxi] at hx
          simp at hj hx
          subst hj; subst hx
          exact ownK_row hC hT h1 s2 hu
    · rw [List.getElem?_set_ne hij] at hj hx
      exact ownK_row hC hT h1 s2 (h3 j z x hj hx)
end Go.Proofs.YtmnhgbkdahdoiaaGreatDoor
namespace Go.Proofs.YtmnhgbkdahdoiaaGreatDoor
open Go.RowKit

def laysClA_ren : Go.Shelf.Ren := ⟨fun | 41 => 50 | n => n, fun | 22 => 22 | 23 => 37 | 4 => 4 | n => n, fun | n => n⟩
theorem laysClA : Go.Proofs.SlLaysE0.n41 Tryz.prog laysClA_ren := {
  mixed := by kernel_rfl
  f41 := ⟨Tryz.f50.name, by decide, Tryz.func50.trans (congrArg some (by kernel_rfl))⟩
  t4 := Tryz.underlying4
  a4 := Tryz.isAgg4
  z4 := Tryz.sizeOf4
  v4 := Tryz.zeroValue4
  t22 := Tryz.underlying22
  a22 := Tryz.isAgg22
  z22 := Tryz.sizeOf22
  v22 := Tryz.zeroValue22 }
theorem infoAttr : (Tryz.prog.info? 37).map (fun i => (i.zero, i.size, i.bytes)) = some (some (.agg #[.string ⟨#[]⟩, .slice none 0 0]), 2, 40) := by kernel_rfl
theorem flatK_get {α : Type} (L : KLay α) : ∀ (xs : List α) (us : List Value) (j : Nat) (u : Value), (flatK L xs us)[j]? = some u → (∃ i x z, j = i * 2 ∧ xs[i]? = some x ∧ us[i]? = some z ∧ u = strV (L.key x)) ∨ (∃ i x, j = i * 2 + 1 ∧ xs[i]? = some x ∧ us[i]? = some u)
  | [], _, j, u, h => by simp [flatK] at h
  | _ :: _, [], j, u, h => by simp [flatK] at h
  | y :: xs, z :: us, 0, u, h => .inl ⟨0, y, z, rfl, rfl, rfl, by simpa [flatK] using h.symm⟩
  | y :: xs, z :: us, 1, u, h => .inr ⟨0, y, rfl, rfl, by simpa [flatK] using h⟩
  | y :: xs, z :: us, j + 2, u, h => by
    rcases flatK_get L xs us j u (by simpa [flatK] using h) with ⟨i, x, v, e, h1, h2, h3⟩ | ⟨i, x, e, h1, h2⟩
    · exact .inl ⟨i + 1, x, v, by omega, by simpa using h1, by simpa using h2, h3⟩
    · exact .inr ⟨i + 1, x, by omega, by simpa using h1, by simpa using h2⟩
/-- the slices of a row that is read -/
theorem flatK_of {α : Type} (L : KLay α) {ok : Nat → Prop} {w : World} {xs : List α} {g o : Nat} (h : ∀ (j : Nat) (x : α), xs[j]? = some x → w.cell? ⟨g, o + j * 2, none⟩ = some (strV (L.key x)) ∧ ∃ u, w.cell? ⟨g, o + j * 2 + 1, none⟩ = some u ∧ L.El ok w u x) :
    ∃ us : List Value, us.length = xs.length ∧ (∀ j u, (flatK L xs us)[j]? = some u → w.cell? ⟨g, o + j, none⟩ = some u ∧ u.oneCell' = true) ∧ ∀ (i : Nat) (u : Value) (x : α), us[i]? = some u → xs[i]? = some x → L.El ok w u x := by
  have H : ∀ i : Fin xs.length, ∃ u, w.cell? ⟨g, o + i.1 * 2 + 1, none⟩ = some u ∧ L.El ok w u xs[i.1] := fun i => (h i.1 _ (List.getElem?_eq_getElem i.2)).2
  obtain ⟨f, hf⟩ := Classical.axiomOfChoice H
  have hget : ∀ (i : Nat) (x : α) (u : Value), xs[i]? = some x → (List.ofFn f)[i]? = some u → ∃ hi : i < xs.length, u = f ⟨i, hi⟩ ∧ x = xs[i] := fun i x u hx hu => by
    obtain ⟨hi, e⟩ := List.getElem?_eq_some_iff.1 hx
    refine ⟨hi, ?_, e.symm⟩
    rw [List.getElem?_ofFn] at hu
    simp [hi] at hu
    exact hu.symm
  refine ⟨List.ofFn f, by simp, fun j u hj => ?_, fun i u x hu hx => ?_⟩
  · rcases flatK_get L xs _ j u hj with ⟨i, x, z, rfl, hx, hz, rfl⟩ | ⟨i, x, rfl, hx, hu⟩
    · exact ⟨(h i x hx).1, rfl⟩
    · obtain ⟨hi, rfl, rfl⟩ := hget i x u hx hu
      have := hf ⟨i, hi⟩
      exact ⟨by rw [← Nat.add_assoc]; exact this.1, L.one this.2⟩
  · obtain ⟨hi, rfl, rfl⟩ := hget i x u hx hu
    exact (hf ⟨i, hi⟩).2
theorem flatK_len {α : Type} (L : KLay α) : ∀ (xs : List α) (us : List Value), us.length = xs.length → (flatK L xs us).length = xs.length * 2
  | [], [], _ => rfl
  | [], _ :: _, h => by simp at h
  | _ :: _, [], h => by simp at h
  | y :: xs, z :: us, h => by
    have := flatK_len L xs us (by simpa using h)
    simp [flatK, this]; omega
def KRet {α : Type} (L : KLay α) (T : TypeId) (Ts : List TypeId) (C : Nat) (xs : List α) (w : World) (e : Ending) (w' : World) : Prop := ∃ v, e = .returned v ∧ OwnK L T Ts C w' w.heap.size v xs ∧ Below w.heap.size w w'
set_option maxRecDepth 100000 in
theorem cloneat_zero (a : Addr) (c : Nat) (w : World) : Calls Tryz.prog 50 #[.slice (some a) 0 c] w fun e w' => ∃ v', e = .returned v' ∧ w'.ownsRow w.heap.size 37 2 v' 0 [] ∧ Below w.heap.size w w' := by
  obtain ⟨i0, hi, hz0, hz1, hz2⟩ := info_parts infoAttr
  have q63 : ∀ (w : World) (a : Option Addr) (n c n' c' : Nat), (binOp .eql 22 (.slice a n c) (.slice none n' c')).run Tryz.prog w = .ok (.bool a.isNone) w := fun w a n c n' c' => Lib.run_eql_slice_nil w _ _ a n c n' c' Tryz.underlying22
  go_enter Tryz.func50, Tryz.ntmps50
  go_wp2_with (at_builtin; refine wpList_append_own _ rfl _ _ 22 rfl w.heap.size 37 i0 _ 2 40 Tryz.underlying22 hi hz0 hz1 hz2 rfl (by decide) _ _ _ rfl (World.ownsRow_made w #[] 0 (Nat.le_refl _) (Nat.zero_le _) rfl) a 0 c [] rfl rfl (by intro j u hj; simp at hj) (by intro u hu; simp at hu) (by unfold maxLen; omega) (by omega) (by simp) ?_)
  intro v' w1 hown hgrow _
  go_wp2_with fail
  go_ret
  exact ⟨v', rfl, by simpa using hown, ((Below.refl _ w).alloc (Nat.le_refl _) _).grown hgrow (by simp) (by intro k hk; simp [Value.ownBlock] at hk; omega)⟩
theorem StrsP.callT {w w' : World} {B : Nat} {u : Value} {xs : List (List UInt8)} {Ts : List TypeId} (h : StrsP (okT Ts B w) w u xs) (hb : Below w.heap.size w w') : StrsP (okT Ts B w') w' u xs := h.keep hb.size (fun g hg _ => hb.block g hg) (fun g hg hok => hok.same (hb.block g hg))
/-- attributes in a row of whatever block; their values lie below C or in blocks of the types Ts -/
def AttrsE (Ts : List TypeId) (C : Nat) (w : World) (u : Value) (xs : List EnS.At) : Prop := SliceP 2 (AttrAt (okT Ts C w)) (fun _ => True) w u xs
theorem AttrAt.callE {w w' : World} {C g o : Nat} {x : EnS.At} {Ts : List TypeId} (h : AttrAt (okT Ts C w) w g o x) (hg : g < w.heap.size) (hb : Below w.heap.size w w') : AttrAt (okT Ts C w') w' g o x := by
  obtain ⟨h1, u, h2, h3⟩ := h
  exact ⟨(hb.cell (p := ⟨g, o, none⟩) hg).trans h1, u, (hb.cell (p := ⟨g, o + 1, none⟩) hg).trans h2, StrsP.callT h3 hb⟩
theorem AttrsE.callT {w w' : World} {C : Nat} {u : Value} {xs : List EnS.At} {Ts : List TypeId} (h : AttrsE Ts C w u xs) (hb : Below w.heap.size w w') : AttrsE Ts C w' u xs :=
  SliceP.imp h hb.size (fun _ _ h => h) fun _ _ _ hg _ hx => hx.callE hg hb
theorem AttrsP.exp {w : World} {C : Nat} {u : Value} {xs : List EnS.At} {Ts : List TypeId} (h : AttrsP (okT Ts C w) w u xs) : AttrsE Ts C w u xs := SliceP.imp h (Nat.le_refl _) (fun _ _ _ => trivial) fun _ _ _ _ _ hx => hx
/-- what is read of such a row: its elements -/
theorem OwnK.attrsE {T : TypeId} {Ts : List TypeId} {C : Nat} {w : World} {B : Nat} {v : Value} {xs : List EnS.At} (h : OwnK atK T Ts C w B v xs) : AttrsE Ts C w v xs := by
  obtain ⟨us, h1, h2, h3⟩ := h
  rcases h1.2 with ⟨rfl, hn⟩ | ⟨g, cap, cur, rfl, hg, hh, hn, hm, hsz, htk⟩
  · exact ⟨none, 0, by rw [hn], by omega, .inl (List.eq_nil_of_length_eq_zero hn)⟩
  · refine ⟨some ⟨g, 0, none⟩, cap, rfl, hn, .inr ⟨g, 0, rfl, (Array.getElem?_eq_some_iff.1 hh).1, trivial, fun j x hj => ?_⟩⟩
    have hlt : j < us.length := by rw [h2]; exact (List.getElem?_eq_some_iff.1 hj).1
    have hu := List.getElem?_eq_getElem hlt
    obtain ⟨f0, f1⟩ := flatK_at atK xs us j x _ hj hu
    have c0 := World.ownsRow.cells h1 (g := g) rfl (j * 2) _ f0
    have c1 := World.ownsRow.cells h1 (g := g) rfl (j * 2 + 1) _ f1
    have hadd : ∀ i, (⟨g, 0, none⟩ : Addr).add i = ⟨g, 0 + i, none⟩ := fun i => by unfold Addr.add; split <;> simp_all
    rw [hadd] at c0 c1
    exact ⟨c0, us[j], c1, h3 j _ x hu hj⟩
theorem cloneat_c (Ts : List TypeId) (C : Nat) (v : Value) (xs : List EnS.At) (w : World) (h : AttrsE Ts C w v xs) (hl : xs.length ≤ 1048576) : Calls Tryz.prog 50 #[v] w (KRet atK 37 Ts C xs w) := by
  obtain ⟨a, c, rfl, hc, hcase⟩ := h
  obtain ⟨i0, hi, hz0, hz1, hz2⟩ := info_parts infoAttr
  cases a with
  | none =>
    have h0 : xs = [] := by
      rcases hcase with h | ⟨g, o, e, _⟩
      · exact h
      · cases e
    subst h0
    refine (AnyE.slices_Clone_nil laysClA _ _ w).mono ?_
    rintro e w' ⟨rfl, rfl⟩
    exact ⟨_, rfl, OwnK.empty _ _ _ _ _ _, Below.refl _ _⟩
  | some ad =>
    have hcl := fun g o cap (us : List Value) (hul : us.length = xs.length) hcc h1 => AnyE.slices_Clone laysClA i0 _ 2 40 hi hz0 hz1 hz2 (by rfl) (by decide) Tryz.sizeOf37 g o xs.length cap (flatK atK xs us) w (flatK_len atK xs us hul) (by unfold maxLen; omega) (by omega) hcc h1
    rcases hcase with rfl | ⟨g, o, e, hg, _, hcell⟩
    · refine (cloneat_zero ad c w).mono ?_
      rintro e w' ⟨v', rfl, ho, hb⟩
      exact ⟨_, rfl, ⟨[], ho, rfl, fun i u x hu => by simp at hu⟩, hb⟩
    · cases e
      obtain ⟨us, hul, hcc, hel⟩ := flatK_of atK hcell
      refine (hcl g o c us hul (fun j u hj => (hcc j u hj).1) (fun u hu => ?_)).mono ?_
      · obtain ⟨j, hj, rfl⟩ := List.mem_iff_getElem.1 hu
        exact (hcc j _ (List.getElem?_eq_getElem hj)).2
      · rintro e w' ⟨v', rfl, ho, _, hb⟩
        exact ⟨_, rfl, ⟨us, ho, hul, fun i u x hu hx => atK.keep (hel i u x hu hx) hb.size (fun g hg _ => hb.block g hg) (fun g hg hok => hok.same (hb.block g hg))⟩, hb⟩
/-- a cell elsewhere is set -/
theorem OwnK.other {α : Type} {L : KLay α} {T : TypeId} {Ts : List TypeId} {C : Nat} {w : World} {B : Nat} {v : Value} {xs : List α} (h : OwnK L T Ts C w B v xs) {g : Nat} {T' : TypeId} {cs : Array Value} (hw : Whole w g T' cs) (hg : C ≤ g) (hT : T' ∉ Ts) (hTT : T ≠ T') (i : Nat) (y : Value) : OwnK L T Ts C (w.setCell ⟨g, i, none⟩ y) B v xs := by
  obtain ⟨us, h1, h2, h3⟩ := h
  have hgr : w.grownBy (w.setCell ⟨g, i, none⟩ y) (some g) := ⟨rfl, rfl, rfl, by simp [World.setCell], fun k _ hk => Below.heap_setCell w ⟨g, i, none⟩ y k (fun e => hk (by rw [e]))⟩
  have hne : v.ownBlock ≠ some g := fun e => by
    obtain ⟨c, fz, h⟩ := Lib.ownsRow_kind h1 g e
    unfold Whole at hw
    rw [hw] at h
    cases h
    exact hTT rfl
  have hblk : ∀ k, okT Ts C w k → (w.setCell ⟨g, i, none⟩ y).heap[k]? = w.heap[k]? := fun k hk => by
    refine Below.heap_setCell w ⟨g, i, none⟩ y k (fun e => ?_)
    subst e
    rcases hk with hk | ⟨c, T2, fz, hk, ht⟩
    · exact absurd hg (Nat.not_le_of_lt hk)
    · unfold Whole at hw
      rw [hw] at hk
      cases hk
      exact hT ht
  exact ⟨us, World.ownsRow.kept h1 hgr (.inr hne), h2, fun j u x hu hx => L.keep (h3 j u x hu hx) hgr.size (fun k _ hk => hblk k hk) (fun k _ hk => hk.same (hblk k hk))⟩
theorem OwnK.alloc {α : Type} {L : KLay α} {T : TypeId} {Ts : List TypeId} {C : Nat} {w : World} {B : Nat} {v : Value} {xs : List α} (h : OwnK L T Ts C w B v xs) (o : Obj) : OwnK L T Ts C (w.alloc o) B v xs := h.call (grow1 w o)
/-- a fresh slice of texts has blocks of texts -/
theorem Own.typed {w : World} {B0 B : Nat} {v : Value} {xs : List (List UInt8)} (h : Own w B0 v xs) {Ts : List TypeId} (hT : 9 ∈ Ts) : StrsP (okT Ts B w) w v xs := h.strs.strsP _ (fun g hg => by
  obtain ⟨c, fz, e⟩ := Lib.ownsRow_kind h g hg
  exact .inr ⟨c, _, fz, e, hT⟩)
theorem AttrsP.base {w : World} {u : Value} {xs : List EnS.At} (h : AttrsIn w u xs) (Ts : List TypeId) : AttrsP (okT Ts w.heap.size w) w u xs := h.keep (Nat.le_refl _) (fun _ _ _ => rfl) (fun _ hg _ => .inl hg)
theorem AttrsP.callT {w w' : World} {B : Nat} {u : Value} {xs : List EnS.At} {Ts : List TypeId} (h : AttrsP (okT Ts B w) w u xs) (hb : Below w.heap.size w w') : AttrsP (okT Ts B w') w' u xs := h.keep hb.size (fun g hg _ => hb.block g hg) (fun g hg hok => hok.same (hb.block g hg))
end Go.Proofs.YtmnhgbkdahdoiaaGreatDoor
namespace Go.Proofs.YtmnhgbkdahdoiaaGreatDoor
open Go.RowKit

theorem results_cell1 {fn : Func} {p : Tmp} {ty : TypeId} (h : fn.results = #[.cell p ty]) (tmps : Array Value) (P : Program) (w : World) :
    (results fn tmps).run P w = ((asAddr (tmps.getD p undef)).run P w).andThen fun a w₁ => (loadVar ty a).run P w₁ := by
  simp only [results, h]
  simp [Sem.run_bind]
/-- an entry that comes back: its attributes are a row of the call's own -/
def CopyRet (C : Nat) (name : List UInt8) (xs : List EnS.At) (w : World) (e : Ending) (w' : World) : Prop := ∃ u, e = .returned (.agg #[.string ⟨name.toArray⟩, u]) ∧ OwnK atK 37 [9] C w' w.heap.size u xs ∧ Below w.heap.size w w'
theorem OwnK.slice {α : Type} {L : KLay α} {T : TypeId} {Ts : List TypeId} {C : Nat} {w : World} {B : Nat} {v : Value} {xs : List α} (h : OwnK L T Ts C w B v xs) {k : Nat} (hk : k < xs.length) : ∃ g cap us, v = .slice (some ⟨g, 0, none⟩) xs.length cap ∧ B ≤ g ∧ xs.length ≤ cap ∧ (∃ cur : Array Value, w.heap[g]? = some (.cells cur T (0, 0))) ∧ (us : Value) = us ∧ w.cell? ⟨g, k * 2, none⟩ = some (strV (L.key (xs[k]'hk))) ∧ w.cell? ⟨g, k * 2 + 1, none⟩ = some us ∧ L.El (okT Ts C w) w us (xs[k]'hk) := by
  obtain ⟨us, h1, h2, h3⟩ := h
  rcases h1.2 with ⟨rfl, hn⟩ | ⟨g, cap, cur, rfl, hg, hh, hn, hm, hsz, htk⟩
  · omega
  · have hlt : k < us.length := by omega
    obtain ⟨f0, f1⟩ := flatK_at L xs us k _ _ (List.getElem?_eq_getElem hk) (List.getElem?_eq_getElem hlt)
    have c0 := World.ownsRow.cells h1 (g := g) rfl (k * 2) _ f0
    have c1 := World.ownsRow.cells h1 (g := g) rfl (k * 2 + 1) _ f1
    have hadd : ∀ i, (⟨g, 0, none⟩ : Addr).add i = ⟨g, i, none⟩ := fun i => by unfold Addr.add; split <;> simp_all
    rw [hadd] at c0 c1
    exact ⟨g, cap, us[k], rfl, hg, hn, ⟨cur, hh⟩, rfl, c0, c1, h3 k _ _ (List.getElem?_eq_getElem hlt) (List.getElem?_eq_getElem hk)⟩
attribute [local go_sem ↓] Go.wp_at_zero Go.wp_at_succ
set_option maxRecDepth 100000 in
set_option maxHeartbeats 2000000 in
theorem encopy_c (C : Nat) (name : List UInt8) (xs : List EnS.At) (u : Value) (w : World) (hC : C ≤ w.heap.size) (h : AttrsE [9] C w u xs) (hf : FitA xs) : Calls Tryz.prog 52 #[.agg #[.string ⟨name.toArray⟩, u]] w (CopyRet C name xs w) := by
  have hb0 := grow1 w (.cells #[.string ⟨name.toArray⟩, u] 24)
  have hw0 := Whole.made w 24 #[.string ⟨name.toArray⟩, u]
  have hg1 := grow1 (w.alloc (.cells #[.string ⟨name.toArray⟩, u] 24)) (.cells #[.string ⟨#[]⟩, .slice none 0 0] 24)
  have hb1 := below_trans hb0 hg1
  have hbz1 := hb1.size
  have hw1 := hw0.call hg1
  have hr1 := Whole.made (w.alloc (.cells #[.string ⟨name.toArray⟩, u] 24)) 24 #[.string ⟨#[]⟩, .slice none 0 0]
  have hin := h.callT hb1
  have hcl := cloneat_c [9] C u xs _ hin hf.1
  have hfl : xs.length ≤ 1048576 := hf.1
  have HF := Lib.hid (fun k (hk : k < xs.length) => (hf.2 _ (List.getElem_mem hk)).1)
  unfold KRet at hcl
  obtain ⟨a, c, rfl, _⟩ := SliceP.form h
  clear hb0 hw0 hg1 h hin
  have q1 := hw1.cell 1
  simp only [List.getElem?_toArray, List.getElem?_cons_zero, List.getElem?_cons_succ] at q1
  go_enter Tryz.func52, Tryz.ntmps52
  go_wp2_with fail
  refine hcl.mono ?_; rintro e w1 ⟨v1, rfl, hown, hb2⟩
  have hw2 := hw1.call hb2
  have hr2 := hr1.call hb2
  have hbx := below_trans hb1 hb2
  obtain ⟨a1, c1, rfl⟩ := hown.form
  have q2 := hw2.cell 1
  simp only [List.getElem?_toArray, List.getElem?_cons_zero, List.getElem?_cons_succ] at q2
  have t2 := hw2.thaw 1
  have hw3 := hw2.put 1 (.slice a1 xs.length c1)
  have hown3 := hown.other hw2 hC (by decide) (by decide) 1 (.slice a1 xs.length c1)
  have hr3 := hr2.other (p := ⟨w.heap.size, 1, none⟩) (by show (w.alloc _).heap.size ≠ w.heap.size; rw [show (w.alloc (.cells #[.string ⟨name.toArray⟩, .slice a xs.length c] 24)).heap.size = w.heap.size + 1 from by show (w.heap.push _).size = _; exact Array.size_push _]; omega) (.slice a1 xs.length c1)
  have hb3 : Below w.heap.size w (w1.setCell ⟨w.heap.size, 1, none⟩ (.slice a1 xs.length c1)) := hbx.setCell (p := ⟨w.heap.size, 1, none⟩) (Nat.le_refl _) _
  have hmade : (w.alloc (.cells #[.string ⟨name.toArray⟩, .slice a xs.length c] 24)).heap.size = w.heap.size + 1 := by show (w.heap.push _).size = _; exact Array.size_push _
  rw [hmade] at hr3
  simp only [List.setIfInBounds_toArray, List.set_cons_succ, List.set_cons_zero] at hw3
  clear hcl hw1 hr1 hb1 hb2 q1 hw2 hr2 hown hbx
  have q0 := hw3.cell 0
  have q1 := hw3.cell 1
  simp only [List.getElem?_toArray, List.getElem?_cons_zero, List.getElem?_cons_succ] at q0 q1
  go_wp2_with fail
  generalize w1.setCell ⟨w.heap.size, 1, none⟩ (.slice a1 xs.length c1) = w2 at *
  have HN : Hid (∃ n, n = xs.length) := Lib.hid ⟨_, rfl⟩
  clear hmade
  go_loopw [12] (fun i wr => ∃ k : Nat, k ≤ xs.length ∧ i = .int .i64 k ∧ OwnK atK 37 [9] C wr w.heap.size (.slice a1 xs.length c1) xs ∧ Whole wr w.heap.size 24 #[.string ⟨name.toArray⟩, .slice a1 xs.length c1] ∧ Whole wr (w.heap.size + 1) 24 #[.string ⟨#[]⟩, .slice none 0 0] ∧ Below w.heap.size w wr) (fun i _ => xs.length - (intOf i).toNat)
  case atStart => exact ⟨0, Nat.zero_le _, rfl, hown3.mono hbz1, hw3, hr3, hb3⟩
  case round =>
    obtain ⟨k, hk, rfl, hown, hw, hr, hb⟩ := hrel
    clear hown3 hw3 hr3 hb3 q0 q1
    by_cases hlt : k < xs.length
    · obtain ⟨g, cap, us, e, hg, _, ⟨cur, hcur⟩, _, c0, c1', hel⟩ := hown.slice hlt
      cases e
      have hset : ∀ x, xs[k]? = some x → atK.key xs[k] = atK.key x := fun x hx => by rw [List.getElem?_eq_getElem hlt] at hx; cases hx; rfl
      have hsame : xs.set k xs[k] = xs := List.set_getElem_self hlt
      have hvl := HF.out k hlt
      have hstore := fun w' (h : OwnK atK 37 [9] C w' w.heap.size (.slice (some ⟨g, 0, none⟩) xs.length c1) xs) (u : Value) (hu : atK.El (okT [9] C w') w' u (xs[k]'hlt)) => OwnK.stored hC (by decide) rfl h k (xs[k]'hlt) hset u hu
      rw [hsame] at hstore
      change wr.cell? ⟨g, k * 2, none⟩ = some (strV xs[k].typ) at c0
      change ∀ w', _ → ∀ u, StrsP (okT [9] C w') w' u xs[k].vals → _ at hstore
      change StrsP (okT [9] C wr) wr us xs[k].vals at hel
      generalize xs[k] = x at *
      obtain ⟨ty, vals⟩ := x
      simp only at c0 hel hvl hstore
      obtain ⟨a2, p2, rfl, _⟩ := SliceP.form hel
      unfold strV at c0
      clear hset hsame
      have hgr := grow1 wr (.cells #[.string ⟨ty.toArray⟩, .slice a2 vals.length p2] 37)
      have hwx := Whole.made wr 37 #[.string ⟨ty.toArray⟩, .slice a2 vals.length p2]
      have hbx := hb.trans (hgr.mono hb.size)
      have hown2 := hown.call hgr
      have hw2 := hw.call hgr
      have hr2 := hr.call hgr
      have hcur0 : Whole wr g 37 cur := hcur
      have hcur2 := hcur0.call hgr
      have hcs := fun w' h => clonestr_c (.slice a2 vals.length p2) vals w' h hvl
      have hstr := (StrsP.strs (ok := okT [9] C wr) hel).call hgr (Nat.le_refl _)
      have hcl := hcs (wr.alloc (.cells #[.string ⟨ty.toArray⟩, .slice a2 vals.length p2] 37)).drew (hstr.call (Below.refl _ _).drew (Nat.le_refl _))
      unfold OwnRet at hcl
      have d1 : (wr.alloc (.cells #[.string ⟨ty.toArray⟩, .slice a2 vals.length p2] 37)).drew.cell? ⟨wr.heap.size, 1, none⟩ = some (.slice a2 vals.length p2) := hwx.cell 1
      have d0 : (wr.alloc (.cells #[.string ⟨ty.toArray⟩, .slice a2 vals.length p2] 37)).drew.cell? ⟨w.heap.size, 1, none⟩ = some (.slice (some ⟨g, 0, none⟩) xs.length c1) := hw2.cell 1
      have i0 : (0 : Int) ≤ (k : Int) := by omega
      have i1 : (k : Int) < (xs.length : Int) := by omega
      have hgl : g < wr.heap.size := hcur0.lt
      have hrg : w.heap.size + 1 ≠ g := fun e => by
        have h1 : Whole wr (w.heap.size + 1) _ _ := hr
        have h2 : Whole wr g _ _ := hcur0
        rw [e] at h1
        unfold Whole at h1 h2
        rw [h1] at h2
        cases h2
      have hwg : w.heap.size ≠ g := fun e => by
        have h1 : Whole wr w.heap.size _ _ := hw
        have h2 : Whole wr g _ _ := hcur0
        rw [e] at h1
        unfold Whole at h1 h2
        rw [h1] at h2
        cases h2
      generalize hL : vals.length = L at *
      have d2 : (wr.alloc (.cells #[.string ⟨ty.toArray⟩, .slice a2 L p2] 37)).drew.cell? ⟨g, k * 2 + 1, none⟩ = some (.slice a2 L p2) := keepC c1' hgr.drew
      have hsz : (wr.alloc (.cells #[.string ⟨ty.toArray⟩, .slice a2 L p2] 37)).drew.heap.size = wr.heap.size + 1 := by show (wr.heap.push _).size = _; exact Array.size_push _
      have hwrg : wr.heap.size ≠ g := by omega
      clear hcs hwx hstr hel hw hr hown hgr
      go_wp2_with fail
      clear c0 c1'
      go_region_held3 (fun W => W.cell? ⟨w.heap.size, 1, none⟩ = some (.slice (some ⟨g, 0, none⟩) xs.length c1) ∧ W.cell? ⟨wr.heap.size, 1, none⟩ = some (.slice a2 L p2))
        (first | exact ⟨d0, d1⟩ | exact ⟨keepC d0 hb3, keepC d1 hb3⟩ | exact ⟨(World.cell?_setCell_far _ ⟨g, k * 2 + 1, none⟩ ⟨w.heap.size, 1, none⟩ _ (fun e => hwg e.symm)).trans (keepC d0 hb3), (World.cell?_setCell_far _ ⟨g, k * 2 + 1, none⟩ ⟨wr.heap.size, 1, none⟩ _ (fun e => hwrg e.symm)).trans (keepC d1 hb3)⟩ | go_keep)
        (first | (go_at_call 44; (with_reducible refine hcl.mono ?_); rintro e w3 ⟨v3, rfl, hown3, hb3⟩; obtain ⟨a3, c3, rfl⟩ := hown3.form; have hcur3 := hcur2.drew.call hb3; have z1 := keepC d2 hb3; have z2 := hcur3.thaw (k * 2 + 1)))
      have hbd := (Below.refl (wr.alloc (.cells #[.string ⟨ty.toArray⟩, .slice a2 L p2] 37)).heap.size (wr.alloc (.cells #[.string ⟨ty.toArray⟩, .slice a2 L p2] 37))).drew
      have hownW := (hown2.call hbd).call hb3
      have hty := hown3.typed (Ts := [9]) (B := C) (List.mem_singleton.2 rfl)
      rw [hL] at hty
      obtain ⟨hfin, hbf⟩ := hstore w3 hownW _ hty
      have hwf := ((hw2.drew).call hb3).other (p := ⟨g, k * 2 + 1, none⟩) hwg (.slice a3 L c3)
      have hrf := ((hr2.drew).call hb3).other (p := ⟨g, k * 2 + 1, none⟩) hrg (.slice a3 L c3)
      have hbz := ((below_trans hbx hbd).trans (hb3.mono (below_trans hbx hbd).size)).trans hbf
      go_wp2_with fail
      go_roundw
      case rel => exact ⟨k + 1, by omega, by go_num, hfin, hwf, hrf, hbz⟩
      case measure => simp [intOf]; omega
    · have q0 := hw.cell 0
      have q1 := hw.cell 1
      have r0 := hr.cell 0
      have r1 := hr.cell 1
      have s0 := hr.thaw 0
      have s1 := hr.thaw 1
      simp only [List.getElem?_toArray, List.getElem?_cons_zero, List.getElem?_cons_succ] at q0 q1 r0 r1
      have hA := hr.put 0 (.string ⟨name.toArray⟩)
      have hoA := hown.other hr (by omega) (by decide) (by decide) 0 (.string ⟨name.toArray⟩)
      simp only [List.setIfInBounds_toArray, List.set_cons_zero] at hA
      have hB := hA.put 1 (.slice a1 xs.length c1)
      have hoB := hoA.other hA (by omega) (by decide) (by decide) 1 (.slice a1 xs.length c1)
      simp only [List.setIfInBounds_toArray, List.set_cons_succ, List.set_cons_zero] at hB
      have hbB : Below w.heap.size w ((wr.setCell ⟨w.heap.size + 1, 0, none⟩ (.string ⟨name.toArray⟩)).setCell ⟨w.heap.size + 1, 1, none⟩ (.slice a1 xs.length c1)) := (hb.setCell (p := ⟨w.heap.size + 1, 0, none⟩) (by show w.heap.size ≤ w.heap.size + 1; omega) _).setCell (p := ⟨w.heap.size + 1, 1, none⟩) (by show w.heap.size ≤ w.heap.size + 1; omega) _
      have y0 := hB.cell 0
      have y1 := hB.cell 1
      simp only [List.getElem?_toArray, List.getElem?_cons_zero, List.getElem?_cons_succ] at y0 y1
      go_wp2_with fail
      (try simp only [Exit.inBlock, Exit.then])
      refine bodyPost_ret (v := .agg #[.string ⟨name.toArray⟩, .slice a1 xs.length c1]) ?_ rfl ⟨_, rfl, hoB, hbB⟩
      clear hA hoA hB hoB hbB hown hw hr hb
      generalize (wr.setCell ⟨w.heap.size + 1, 0, none⟩ (.string ⟨name.toArray⟩)).setCell ⟨w.heap.size + 1, 1, none⟩ (.slice a1 xs.length c1) = wf at *
      rw [results_cell1 rfl]
      go_simp
end Go.Proofs.YtmnhgbkdahdoiaaGreatDoor
