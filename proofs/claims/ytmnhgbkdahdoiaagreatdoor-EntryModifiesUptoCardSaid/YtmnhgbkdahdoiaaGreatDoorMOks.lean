/- Many elements appended to a row of texts and slices of the call's own. Conditions: those that each theorem states. Rows of the call's own, whose elements are a slice of texts and a Bool. Conditions: those that each theorem states. -/
import Derived.Test.YtmnhgbkdahdoiaaGreatDoorMOwk
namespace Go.Proofs.YtmnhgbkdahdoiaaGreatDoor
open Go.RowKit

theorem append_nil_k {w : World} {B : Nat} {v : Value} {n : Nat} {xs : List Value} {T sT : TypeId} (ty : TypeId) (hsT : Tryz.prog.underlying sT = some (.slice T)) {i0 : TypeInfo} (hi : Tryz.prog.info? T = some i0) (hown : w.ownsRow B T 2 v n xs) (c : Nat) : (Builtin.append_ #[sT, sT] ty #[v, .slice none 0 c]).run Tryz.prog w = .ok v w := by
  have hu := run_underlying hsT
  rcases hown.2 with ⟨rfl, rfl⟩ | ⟨g, cap, cur, rfl, _, _, hnc, _⟩
  · simp [Builtin.append_, hu, sizeOf, typeInfo, hi, Builtin.lenOf, Builtin.firstCells]
  · simp [Builtin.append_, hu, sizeOf, typeInfo, hi, Builtin.lenOf, Builtin.firstCells, hnc, storeCells]
/-- many elements grow a row -/
theorem OwnK.grows {α : Type} {L : KLay α} {T : TypeId} {Ts : List TypeId} {C B : Nat} (hC : C ≤ B) (hT : T ∉ Ts) {w w' : World} {v v' : Value} {xs ys : List α} {us vs : List Value} (h1 : w.ownsRow B T 2 v xs.length (flatK L xs us)) (h2 : us.length = xs.length)
    (h3 : ∀ (i : Nat) (u : Value) (x : α), us[i]? = some u → xs[i]? = some x → L.El (okT Ts C w) w u x) (k2 : vs.length = ys.length) (k3 : ∀ (i : Nat) (u : Value) (x : α), vs[i]? = some u → ys[i]? = some x → L.El (okT Ts C w) w u x)
    (h4 : w'.ownsRow B T 2 v' (xs.length + ys.length) (flatK L xs us ++ flatK L ys vs)) (hg : w.grownBy w' v.ownBlock) : OwnK L T Ts C w' B v' (xs ++ ys) := by
  have hfl : ∀ (xs : List α) (us : List Value), us.length = xs.length → flatK L (xs ++ ys) (us ++ vs) = flatK L xs us ++ flatK L ys vs := by
    intro xs
    induction xs with
    | nil => intro us h; cases us with
      | nil => rfl
      | cons _ _ => simp at h
    | cons x xs ih => intro us h; cases us with
      | nil => simp at h
      | cons z us => simp [flatK, ih us (by simpa using h)]
  refine ⟨us ++ vs, by rw [List.length_append, hfl xs us h2]; exact h4, by simp [h2, k2], fun i z y hi hy => ?_⟩
  by_cases hlt : i < us.length
  · rw [List.getElem?_append_left hlt] at hi
    rw [List.getElem?_append_left (by omega)] at hy
    exact ownK_row hC hT h1 hg (h3 i z y hi hy)
  · rw [List.getElem?_append_right (by omega)] at hi
    rw [List.getElem?_append_right (by omega), ← h2] at hy
    exact ownK_row hC hT h1 hg (k3 _ z y hi hy)
theorem push_ks {α : Type} (L : KLay α) {w : World} {ops : Array Oper} {rest : List Oper} {o : Oper} {a : Act} {Q : Exit → Act → World → Prop} (T sT : TypeId) (Ts : List TypeId) (hT : T ∉ Ts) (hsT : Tryz.prog.underlying sT = some (.slice T)) {i0 : TypeInfo} {z : Value}
    (hi : Tryz.prog.info? T = some i0) (hz : i0.zero = some z) (hsz2 : i0.size = 2) (hby : i0.bytes = 40) (hzc : z.cells.size = 2) (hgd : o.guard = none) (s x : Operand)
    (ho : o.op = .call { callee := .builtin .append, args := #[s, x], argTypes := #[sT, sT] })
    (B : Nat) {C : Nat} (hC : C ≤ B) (v : Value) (xs : List α) (hs : a.eval s = v) (hown : OwnK L T Ts C w B v xs) (u : Value) (ys : List α) (hx : a.eval x = u)
    (hin : SliceP 2 (fun w g o x => w.cell? ⟨g, o, none⟩ = some (strV (L.key x)) ∧ ∃ u, w.cell? ⟨g, o + 1, none⟩ = some u ∧ L.El (okT Ts C w) w u x) (fun _ => True) w u ys) (hn : xs.length + ys.length ≤ 1000000000) (hB : B ≤ w.heap.size)
    (h : ∀ v' w', OwnK L T Ts C w' B v' (xs ++ ys) → Below B w w' → w.grownBy w' v.ownBlock → wpList Tryz.prog ops Q rest (a.put o.dst v') w') : wpList Tryz.prog ops Q (o :: rest) a w := by
  obtain ⟨A, c, rfl, hc, hcase⟩ := hin
  obtain ⟨us, h1, h2, h3⟩ := hown
  cases A with
  | none =>
    rcases hcase with rfl | ⟨g, o, e, _⟩
    · refine wpList_plain hgd fun K hK => ?_
      have hrun := append_nil_k o.type hsT hi h1 c
      unfold Oper.wp
      simp [execOp, ho, resolve, invoke, builtin, hs, hx, hrun, Result.andThen]
      exact hK _ _ (h v w (by rw [List.append_nil]; exact ⟨us, h1, h2, h3⟩) (Below.refl B w) ⟨rfl, rfl, rfl, Nat.le_refl _, fun _ _ _ => rfl⟩)
    · cases e
  | some ad =>
    rcases hcase with rfl | ⟨g, o2, e, hg, _, hcell⟩
    · exact wpList_append_own w hgd s x _ ho B T i0 z 2 40 hsT hi hz hsz2 hby hzc (by decide) v xs.length _ hs h1 ad 0 c [] hx rfl
        (fun j u hj => by simp at hj) (fun u hu => by cases hu) (by unfold maxLen; omega) (by omega) hB
        (fun v' w' h4 h5 _ => h v' w' (OwnK.grows (ys := []) (vs := []) hC hT h1 h2 h3 rfl (fun i u x hi => by simp at hi) h4 h5) ((Below.refl B w).grown h5 hB (fun k hk => (World.ownsRow.lt h1 k hk).1)) h5)
    · cases e
      obtain ⟨vs, k2, k1, k3⟩ := flatK_of L hcell
      exact wpList_append_own w hgd s x _ ho B T i0 z 2 40 hsT hi hz hsz2 hby hzc (by decide) v xs.length _ hs h1 ⟨g, o2, none⟩ ys.length c (flatK L ys vs) hx (flatK_len L ys vs k2)
        (fun j u hj => by
          have hadd : (⟨g, o2, none⟩ : Addr).add j = ⟨g, o2 + j, none⟩ := by unfold Addr.add; split <;> simp_all
          rw [hadd]
          exact (k1 j u hj).1)
        (fun u hu => by
          obtain ⟨j, hj, rfl⟩ := List.mem_iff_getElem.1 hu
          exact (k1 j _ (List.getElem?_eq_getElem hj)).2) (by unfold maxLen; omega) (by omega) hB
        (fun v' w' h4 h5 _ => h v' w' (OwnK.grows hC hT h1 h2 h3 k2 k3 h4 h5) ((Below.refl B w).grown h5 hB (fun k hk => (World.ownsRow.lt h1 k hk).1)) h5)
end Go.Proofs.YtmnhgbkdahdoiaaGreatDoor
namespace Go.Proofs.YtmnhgbkdahdoiaaGreatDoor
open Go.RowKit

/-- a key: its texts, and whether it is one -/
abbrev Ky : Type := List (List UInt8) × Bool
def kyK : KLay Ky := ⟨fun _ => [], fun ok w u x => StrsP ok w u x.1, fun h => StrsP.keep h, fun h => by obtain ⟨a, c, rfl, _⟩ := SliceP.form h; rfl⟩
def flatQ : List Ky → List Value → List Value
  | x :: xs, u :: us => u :: .bool x.2 :: flatQ xs us
  | _, _ => []
theorem flatQ_at : ∀ (xs : List Ky) (us : List Value) (i : Nat) (x : Ky) (u : Value), xs[i]? = some x → us[i]? = some u → (flatQ xs us)[i * 2]? = some u ∧ (flatQ xs us)[i * 2 + 1]? = some (.bool x.2)
  | [], _, i, x, u, h, _ => by simp at h
  | _ :: _, [], i, x, u, _, h => by simp at h
  | y :: xs, z :: us, 0, x, u, h, k => by
    simp only [List.getElem?_cons_zero, Option.some.injEq] at h k
    subst h; subst k
    exact ⟨rfl, rfl⟩
  | y :: xs, z :: us, i + 1, x, u, h, k => by
    have hh := flatQ_at xs us i x u (by simpa using h) (by simpa using k)
    have e : (i + 1) * 2 = i * 2 + 1 + 1 := by omega
    rw [e]
    exact ⟨by simpa [flatQ] using hh.1, by simpa [flatQ] using hh.2⟩
theorem flatQ_append (ys : List Ky) (vs : List Value) : ∀ (xs : List Ky) (us : List Value), us.length = xs.length → flatQ (xs ++ ys) (us ++ vs) = flatQ xs us ++ flatQ ys vs
  | [], [], _ => rfl
  | [], _ :: _, h => by simp at h
  | _ :: _, [], h => by simp at h
  | x :: xs, z :: us, h => by simp [flatQ, flatQ_append ys vs xs us (by simpa using h)]
/-- v is a row of the call's own (element type T) of keys, whose texts lie below C or in blocks of texts -/
def OwnQ (T : TypeId) (w : World) (C B : Nat) (v : Value) (xs : List Ky) : Prop :=
  ∃ us : List Value, w.ownsRow B T 2 v xs.length (flatQ xs us) ∧ us.length = xs.length ∧ ∀ (i : Nat) (u : Value) (x : Ky), us[i]? = some u → xs[i]? = some x → StrsP (okT [9] C w) w u x.1
theorem OwnQ.empty (T : TypeId) (w : World) (C B : Nat) : OwnQ T w C B (.slice none 0 0) [] := ⟨[], World.ownsRow_nil w B _ 2, rfl, fun i u x h => by simp at h⟩
theorem OwnQ.form {T : TypeId} {w : World} {C B : Nat} {v : Value} {xs : List Ky} (h : OwnQ T w C B v xs) : ∃ a c, v = .slice a xs.length c ∧ xs.length ≤ c := by
  obtain ⟨us, h, _⟩ := h
  rcases h.2 with ⟨rfl, hn⟩ | ⟨g, cap, cur, rfl, _, _, hn, _⟩
  · exact ⟨_, _, by rw [hn], by omega⟩
  · exact ⟨_, _, rfl, hn⟩
theorem OwnQ.call {T : TypeId} {w w' : World} {C B : Nat} {v : Value} {xs : List Ky} (h : OwnQ T w C B v xs) (hb : Below w.heap.size w w') : OwnQ T w' C B v xs := by
  obtain ⟨us, h1, h2, h3⟩ := h
  exact ⟨us, World.ownsRow.kept h1 (grown_none hb) (by cases v.ownBlock <;> simp), h2, fun i u l a b => StrsP.keep (h3 i u l a b) hb.size (fun g hg _ => hb.block g hg) (fun g hg hok => hok.same (hb.block g hg))⟩
theorem OwnQ.mono {T : TypeId} {w : World} {C B B' : Nat} {v : Value} {xs : List Ky} (h : OwnQ T w C B v xs) (hB : B' ≤ B) : OwnQ T w C B' v xs := by
  obtain ⟨us, h1, h2, h3⟩ := h
  exact ⟨us, World.ownsRow.mono h1 hB, h2, h3⟩
/-- a key in memory -/
def KyAt (C : Nat) (w : World) (g o : Nat) (x : Ky) : Prop := (∃ u, w.cell? ⟨g, o, none⟩ = some u ∧ StrsP (okT [9] C w) w u x.1) ∧ w.cell? ⟨g, o + 1, none⟩ = some (.bool x.2)
/-- what is read of such a row -/
theorem OwnQ.read {T : TypeId} {w : World} {C B : Nat} {v : Value} {xs : List Ky} (h : OwnQ T w C B v xs) : SliceP 2 (KyAt C) (fun _ => True) w v xs := by
  obtain ⟨us, h1, h2, h3⟩ := h
  rcases h1.2 with ⟨rfl, hn⟩ | ⟨g, cap, cur, rfl, hg, hh, hn, hm, hsz, htk⟩
  · exact ⟨none, 0, by rw [hn], by omega, .inl (List.eq_nil_of_length_eq_zero hn)⟩
  · refine ⟨some ⟨g, 0, none⟩, cap, rfl, hn, .inr ⟨g, 0, rfl, (Array.getElem?_eq_some_iff.1 hh).1, trivial, fun j x hj => ?_⟩⟩
    have hlt : j < us.length := by rw [h2]; exact (List.getElem?_eq_some_iff.1 hj).1
    have hu := List.getElem?_eq_getElem hlt
    obtain ⟨f0, f1⟩ := flatQ_at xs us j x _ hj hu
    have c0 := World.ownsRow.cells h1 (g := g) rfl (j * 2) _ f0
    have c1 := World.ownsRow.cells h1 (g := g) rfl (j * 2 + 1) _ f1
    have hadd : ∀ i, (⟨g, 0, none⟩ : Addr).add i = ⟨g, 0 + i, none⟩ := fun i => by unfold Addr.add; split <;> simp_all
    rw [hadd] at c0 c1
    exact ⟨⟨us[j], c0, h3 j _ x hu hj⟩, c1⟩
theorem OwnQ.grows {T : TypeId} {C B : Nat} (hC : C ≤ B) (hT : T ∉ [9]) {w w' : World} {v v' : Value} {xs ys : List Ky} {us vs : List Value} (h1 : w.ownsRow B T 2 v xs.length (flatQ xs us)) (h2 : us.length = xs.length)
    (h3 : ∀ (i : Nat) (u : Value) (x : Ky), us[i]? = some u → xs[i]? = some x → StrsP (okT [9] C w) w u x.1) (k2 : vs.length = ys.length) (k3 : ∀ (i : Nat) (u : Value) (x : Ky), vs[i]? = some u → ys[i]? = some x → StrsP (okT [9] C w) w u x.1)
    (h4 : w'.ownsRow B T 2 v' (xs.length + ys.length) (flatQ xs us ++ flatQ ys vs)) (hg : w.grownBy w' v.ownBlock) : OwnQ T w' C B v' (xs ++ ys) := by
  refine ⟨us ++ vs, by rw [List.length_append, flatQ_append ys vs xs us h2]; exact h4, by simp [h2, k2], fun i z y hi hy => ?_⟩
  by_cases hlt : i < us.length
  · rw [List.getElem?_append_left hlt] at hi
    rw [List.getElem?_append_left (by omega)] at hy
    exact ownK_row (L := kyK) hC hT h1 hg (h3 i z y hi hy)
  · rw [List.getElem?_append_right (by omega)] at hi
    rw [List.getElem?_append_right (by omega), ← h2] at hy
    exact ownK_row (L := kyK) hC hT h1 hg (k3 _ z y hi hy)
/-- a slice's end -/
theorem SliceP.drop {α : Type} {k : Nat} {El : World → Nat → Nat → α → Prop} {ok : Nat → Prop} {w : World} {a : Option Addr} {n c : Nat} {xs : List α} (h : SliceP k El ok w (.slice a n c) xs) {m : Nat} (hm : m ≤ n) : SliceP k El ok w (.slice (Option.map (fun x => x.add (m * k)) a) (n - m) (c - m)) (xs.drop m) := by
  obtain ⟨a', c1, e, hc, hcase⟩ := h
  cases e
  have hl : (xs.drop m).length = xs.length - m := List.length_drop
  refine ⟨_, c - m, by rw [hl], by rw [hl]; omega, ?_⟩
  rcases hcase with rfl | ⟨g, o, rfl, hg, hok, hcell⟩
  · exact .inl (by simp)
  · have hadd : (⟨g, o, none⟩ : Addr).add (m * k) = ⟨g, o + m * k, none⟩ := by unfold Addr.add; split <;> simp_all
    refine .inr ⟨g, o + m * k, by simp only [Option.map_some, hadd], hg, hok, fun j y hj => ?_⟩
    rw [List.getElem?_drop] at hj
    have := hcell (m + j) y hj
    rwa [Nat.add_mul, ← Nat.add_assoc] at this
end Go.Proofs.YtmnhgbkdahdoiaaGreatDoor
