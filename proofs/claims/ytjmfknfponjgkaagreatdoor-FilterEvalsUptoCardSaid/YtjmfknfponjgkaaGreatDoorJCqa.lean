/- Rows of the call's own, whose elements are a text and a slice: attributes, entries. Conditions: as stated. -/
import Derived.Lib.OwnKind
import Derived.Deep.Onto
import Derived.Shelf.SlicesE.Clone
import Derived.BigQuiet
import Derived.Deep.DrawnRows
import Derived.Laws.ResultCell
import Derived.Test.YtjmfknfponjgkaaGreatDoorJAva
import Derived.Test.YtjmfknfponjgkaaGreatDoorJEna
import Derived.Test.YtjmfknfponjgkaaGreatDoorJFii
set_option maxRecDepth 100000
set_option maxHeartbeats 4000000
namespace Go.Proofs.YtjmfknfponjgkaaGreatDoor
section
open Go.RowKit
def okT (Ts : List TypeId) (B : Nat) (w : World) (g : Nat) : Prop := g < B \/ ∃ cs T fz, w.heap[g]? = some (.cells cs T fz) /\ T ∈ Ts
theorem okT.same {Ts : List TypeId} {B : Nat} {w w' : World} {g : Nat} (h : okT Ts B w g) (e : w'.heap[g]? = w.heap[g]?) : okT Ts B w' g := by
 rcases h with h | ⟨cs, T, fz, h, ht⟩
 · exact .inl h
 · exact .inr ⟨cs, T, fz, e.trans h, ht⟩
theorem okT.mono {Ts Ts' : List TypeId} {B B' : Nat} {w : World} {g : Nat} (h : okT Ts B w g) (hB : B <= B') (hT : ∀ T ∈ Ts, T ∈ Ts') : okT Ts' B' w g := by
 rcases h with h | ⟨cs, T, fz, h, ht⟩
 · exact .inl (Nat.lt_of_lt_of_le h hB)
 · exact .inr ⟨cs, T, fz, h, hT T ht⟩
structure KLay (α : Type) where
 key : α -> List UInt8
 El : (Nat -> Prop) -> World -> Value -> α -> Prop
 keep : ∀ {ok ok' : Nat -> Prop} {w w' : World} {u : Value} {x : α}, El ok w u x -> w.heap.size <= w'.heap.size -> (∀ g, g < w.heap.size -> ok g -> w'.heap[g]? = w.heap[g]?) -> (∀ g, g < w.heap.size -> ok g -> ok' g) -> El ok' w' u x
 one : ∀ {ok : Nat -> Prop} {w : World} {u : Value} {x : α}, El ok w u x -> u.oneCell' = true
def atK : KLay EnS.At := ⟨EnS.At.typ, fun ok w u x => StrsP ok w u x.vals, fun h => StrsP.keep h, fun h => by obtain ⟨a, c, rfl, _⟩ := SliceP.form h; rfl⟩
def flatK {α : Type} (L : KLay α) : List α -> List Value -> List Value
 | x :: xs, u :: us => strV (L.key x) :: u :: flatK L xs us
 | _, _ => []
theorem flatK_at {α : Type} (L : KLay α) : ∀ (xs : List α) (us : List Value) (i : Nat) (x : α) (u : Value), xs[i]? = some x -> us[i]? = some u -> (flatK L xs us)[i * 2]? = some (strV (L.key x)) /\ (flatK L xs us)[i * 2 + 1]? = some u
 | [], _, i, x, u, h, _ => by simp at h
 | _ :: _, [], i, x, u, _, h => by simp at h
 | y :: xs, z :: us, 0, x, u, h, k => by
  simp only [List.getElem?_cons_zero, Option.some.injEq] at h k
  subst h; subst k
  exact ⟨rfl, rfl⟩
 | y :: xs, z :: us, i + 1, x, u, h, k => by
  have hh := flatK_at L xs us i x u (by simpa using h) (by simpa using k)
  have e : (i + 1) * 2 = i * 2 + 1 + 1 := by omega
  rw [e]
  exact ⟨by simpa [flatK] using hh.1, by simpa [flatK] using hh.2⟩
def OwnK {α : Type} (L : KLay α) (T : TypeId) (Ts : List TypeId) (C : Nat) (w : World) (B : Nat) (v : Value) (xs : List α) : Prop :=
 ∃ us : List Value, w.ownsRow B T 2 v xs.length (flatK L xs us) /\ us.length = xs.length /\ ∀ (i : Nat) (u : Value) (x : α), us[i]? = some u -> xs[i]? = some x -> L.El (okT Ts C w) w u x
theorem OwnK.empty {α : Type} (L : KLay α) (T : TypeId) (Ts : List TypeId) (C : Nat) (w : World) (B : Nat) : OwnK L T Ts C w B (.slice none 0 0) [] := ⟨[], World.ownsRow_nil w B _ 2, rfl, fun i u x h => by simp at h⟩
theorem OwnK.form {α : Type} {L : KLay α} {T : TypeId} {Ts : List TypeId} {C : Nat} {w : World} {B : Nat} {v : Value} {xs : List α} (h : OwnK L T Ts C w B v xs) : ∃ a c, v = .slice a xs.length c := by
 obtain ⟨us, h, _⟩ := h
 rcases h.2 with ⟨rfl, hn⟩ | ⟨g, cap, cur, rfl, _⟩
 · exact ⟨_, _, by rw [hn]⟩
 · exact ⟨_, _, rfl⟩
theorem OwnK.call {α : Type} {L : KLay α} {T : TypeId} {Ts : List TypeId} {C : Nat} {w w' : World} {B : Nat} {v : Value} {xs : List α} (h : OwnK L T Ts C w B v xs) (hb : Below w.heap.size w w') : OwnK L T Ts C w' B v xs := by
 obtain ⟨us, h1, h2, h3⟩ := h
 exact ⟨us, World.ownsRow.kept h1 (grown_none hb) (by cases v.ownBlock <;> simp), h2, fun i u l a b => L.keep (h3 i u l a b) hb.size (fun g hg _ => hb.block g hg) (fun g hg hok => hok.same (hb.block g hg))⟩
theorem OwnK.mono {α : Type} {L : KLay α} {T : TypeId} {Ts : List TypeId} {C : Nat} {w : World} {B B' : Nat} {v : Value} {xs : List α} (h : OwnK L T Ts C w B v xs) (hB : B' <= B) : OwnK L T Ts C w B' v xs := by
 obtain ⟨us, h1, h2, h3⟩ := h
 exact ⟨us, World.ownsRow.mono h1 hB, h2, h3⟩
theorem OwnK.read {α : Type} {L : KLay α} {T : TypeId} {Ts : List TypeId} {C : Nat} {w : World} {B : Nat} {v : Value} {xs : List α} (h : OwnK L T Ts C w B v xs) (ok : Nat -> Prop) (hok : ∀ g, g < w.heap.size -> okT Ts C w g -> ok g) (hrow : ∀ g cs, w.heap[g]? = some (.cells cs T (0, 0)) -> B <= g -> ok g) :
  SliceP 2 (fun w g o x => w.cell? ⟨g, o, none⟩ = some (strV (L.key x)) /\ ∃ u, w.cell? ⟨g, o + 1, none⟩ = some u /\ L.El ok w u x) ok w v xs := by
 obtain ⟨us, h1, h2, h3⟩ := h
 rcases h1.2 with ⟨rfl, hn⟩ | ⟨g, cap, cur, rfl, hg, hh, hn, hm, hsz, htk⟩
 · exact ⟨none, 0, by rw [hn], by omega, .inl (List.eq_nil_of_length_eq_zero hn)⟩
 · refine ⟨some ⟨g, 0, none⟩, cap, rfl, hn, .inr ⟨g, 0, rfl, (Array.getElem?_eq_some_iff.1 hh).1, hrow g cur hh hg, fun j x hj => ?_⟩⟩
   have hlt : j < us.length := by rw [h2]; exact (List.getElem?_eq_some_iff.1 hj).1
   have hu := List.getElem?_eq_getElem hlt
   obtain ⟨f0, f1⟩ := flatK_at L xs us j x _ hj hu
   have c0 := World.ownsRow.cells h1 (g := g) rfl (j * 2) _ f0
   have c1 := World.ownsRow.cells h1 (g := g) rfl (j * 2 + 1) _ f1
   have hadd : ∀ i, (⟨g, 0, none⟩ : Addr).add i = ⟨g, 0 + i, none⟩ := fun i => by unfold Addr.add; split <;> simp_all
   rw [hadd] at c0 c1
   exact ⟨c0, us[j], c1, L.keep (h3 j _ x hu hj) (Nat.le_refl _) (fun _ _ _ => rfl) hok⟩
theorem OwnK.attrs {T : TypeId} {Ts : List TypeId} {C : Nat} {w : World} {B : Nat} {v : Value} {xs : List EnS.At} (h : OwnK atK T Ts C w B v xs) : AttrsIn w v xs := h.read (fun _ => True) (fun _ _ _ => trivial) (fun _ _ _ _ => trivial)
end
section
open Go.RowKit
def AttrsE (Ts : List TypeId) (C : Nat) (w : World) (u : Value) (xs : List EnS.At) : Prop := SliceP 2 (AttrAt (okT Ts C w)) (fun _ => True) w u xs
theorem OwnK.other {α : Type} {L : KLay α} {T : TypeId} {Ts : List TypeId} {C : Nat} {w : World} {B : Nat} {v : Value} {xs : List α} (h : OwnK L T Ts C w B v xs) {g : Nat} {T' : TypeId} {cs : Array Value} (hw : Whole w g T' cs) (hg : C <= g) (hT : T' ∉ Ts) (hTT : T ≠ T') (i : Nat) (y : Value) : OwnK L T Ts C (w.setCell ⟨g, i, none⟩ y) B v xs := by
 obtain ⟨us, h1, h2, h3⟩ := h
 have hgr : w.grownBy (w.setCell ⟨g, i, none⟩ y) (some g) := ⟨rfl, rfl, rfl, by simp [World.setCell], fun k _ hk => Below.heap_setCell w ⟨g, i, none⟩ y k (fun e => hk (by rw [e]))⟩
 have hne : v.ownBlock ≠ some g := fun e => by
  obtain ⟨c, fz, h⟩ := Lib.ownsRow_kind h1 g e
  unfold Whole at hw
  rw [hw] at h
  cases h
  exact hTT rfl
 have hblk : ∀ k, okT Ts C w k -> (w.setCell ⟨g, i, none⟩ y).heap[k]? = w.heap[k]? := fun k hk => by
  refine Below.heap_setCell w ⟨g, i, none⟩ y k (fun e => ?_)
  subst e
  rcases hk with hk | ⟨c, T2, fz, hk, ht⟩
  · exact absurd hg (Nat.not_le_of_lt hk)
  · unfold Whole at hw
    rw [hw] at hk
    cases hk
    exact hT ht
 exact ⟨us, World.ownsRow.kept h1 hgr (.inr hne), h2, fun j u x hu hx => L.keep (h3 j u x hu hx) hgr.size (fun k _ hk => hblk k hk) (fun k _ hk => hk.same (hblk k hk))⟩
theorem OwnK.alloc {α : Type} {L : KLay α} {T : TypeId} {Ts : List TypeId} {C : Nat} {w : World} {B : Nat} {v : Value} {xs : List α} (h : OwnK L T Ts C w B v xs) (o : Obj) : OwnK L T Ts C (w.alloc o) B v xs := h.call (grow1 w o)
theorem AttrsP.base {w : World} {u : Value} {xs : List EnS.At} (h : AttrsIn w u xs) (Ts : List TypeId) : AttrsP (okT Ts w.heap.size w) w u xs := h.keep (Nat.le_refl _) (fun _ _ _ => rfl) (fun _ hg _ => .inl hg)
end
section
open Go.RowKit
theorem results_cell1 {fn : Func} {p : Tmp} {ty : TypeId} (h : fn.results = #[.cell p ty]) (tmps : Array Value) (P : Program) (w : World) :
  (results fn tmps).run P w = ((asAddr (tmps.getD p undef)).run P w).andThen fun a w₁ => (loadVar ty a).run P w₁ := by
 simp only [results, h]
 simp [Sem.run_bind]
theorem OwnK.slice {α : Type} {L : KLay α} {T : TypeId} {Ts : List TypeId} {C : Nat} {w : World} {B : Nat} {v : Value} {xs : List α} (h : OwnK L T Ts C w B v xs) {k : Nat} (hk : k < xs.length) : ∃ g cap us, v = .slice (some ⟨g, 0, none⟩) xs.length cap /\ B <= g /\ xs.length <= cap /\ (∃ cur : Array Value, w.heap[g]? = some (.cells cur T (0, 0))) /\ (us : Value) = us /\ w.cell? ⟨g, k * 2, none⟩ = some (strV (L.key (xs[k]'hk))) /\ w.cell? ⟨g, k * 2 + 1, none⟩ = some us /\ L.El (okT Ts C w) w us (xs[k]'hk) := by
 obtain ⟨us, h1, h2, h3⟩ := h
 rcases h1.2 with ⟨rfl, hn⟩ | ⟨g, cap, cur, rfl, hg, hh, hn, hm, hsz, htk⟩
 · omega
 · have hlt : k < us.length := by omega
   obtain ⟨f0, f1⟩ := flatK_at L xs us k _ _ (List.getElem?_eq_getElem hk) (List.getElem?_eq_getElem hlt)
   have c0 := World.ownsRow.cells h1 (g := g) rfl (k * 2) _ f0
   have c1 := World.ownsRow.cells h1 (g := g) rfl (k * 2 + 1) _ f1
   have hadd : ∀ i, (⟨g, 0, none⟩ : Addr).add i = ⟨g, i, none⟩ := fun i => by unfold Addr.add; split <;> simp_all
   rw [hadd] at c0 c1
   exact ⟨g, cap, us[k], rfl, hg, hn, ⟨cur, hh⟩, rfl, c0, c1, h3 k _ _ (List.getElem?_eq_getElem hlt) (List.getElem?_eq_getElem hk)⟩
attribute [local go_sem ↓] Go.wp_at_zero Go.wp_at_succ
end
section
open Go.RowKit
theorem Own.made0 (w : World) : Own (w.alloc (.cells #[] 9)) w.heap.size (.slice (some ⟨w.heap.size, 0, none⟩) 0 0) [] := World.ownsRow_made w #[] 0 (Nat.le_refl _) (Nat.zero_le _) rfl
theorem build0 (w : World) : (Instr.buildSlice 22 0 #[]).run Tryz.prog w = .ok (.slice (some ⟨w.heap.size, 0, none⟩) 0 0) (w.alloc (.cells #[] 9)) := by
 obtain ⟨i0, hi, hz0, hz1, hz2⟩ := info_parts infoStr
 simp [Instr.buildSlice, run_underlying Tryz.underlying22, sizeOf, typeInfo, hi, newRow, Instr.fill]
 have e : ∀ f : Nat -> Value, Array.map f (Array.range 0) = #[] := fun f => Array.eq_empty_of_size_eq_zero (by simp)
 rw [e]
end
section
open Go.RowKit
theorem cost_len (l : List EnS.En) : l.length <= EnS.sumBy EnS.cE l := EnS.sumBy_len (fun x => by unfold EnS.cE; omega) l
theorem cost_attrs (l : List EnS.At) : l.length <= EnS.sumBy EnS.cA l := EnS.sumBy_len (fun x => by unfold EnS.cA; omega) l
def SmallRet (xs : List EnS.En) (w : World) (e : Ending) (w' : World) : Prop := ∃ b, e = .returned (.bool b) /\ w = w' /\ (b = true -> EnS.sumBy EnS.cE xs <= 3000)
theorem quo_hundred (n : Nat) : Int.tdiv (n : Int) 100 = ((n / 100 : Nat) : Int) := rfl
theorem small_c (v : Value) (xs : List EnS.En) (w : World) (h : EnsIn w v xs) (hN : EnS.sumBy EnS.cE xs <= 1048576) : Calls Tryz.prog 24 #[v] w (SmallRet xs w) := by
 obtain ⟨a, c, rfl, hc, hat⟩ := SliceP.at h
 have HAT := hZ9 hat
 have hl := cost_len xs
 have HST := hZ9 (fun k (h : k < xs.length) => EnS.sumBy_take (f := EnS.cE) h)
 have HSL := hZ9 (fun k => EnS.sumBy_le (f := EnS.cE) xs k)
 clear hat h
 generalize hn : xs.length = n at hc hl ⊢
 have HN := hZ9 hn
 clear hn
 go_enter Tryz.func24, Tryz.ntmps24
 go_wp2_with fail
 go_loop [3, 9] (fun m i => ∃ k : Nat, k <= n /\ i = .int .i64 k /\ m = .int .i64 (EnS.sumBy EnS.cE (xs.take k) : Nat) /\ (0 < k -> EnS.sumBy EnS.cE (xs.take k) <= 3000)) (fun _ i => n - (intOf i).toNat)
 case atStart => exact ⟨0, Nat.zero_le _, rfl, rfl, fun h => absurd h (Nat.lt_irrefl 0)⟩
 case round =>
  obtain ⟨k, hk, rfl, rfl, h3⟩ := hrel
  have hs0 := HSL.out k
  by_cases hlt : k < n
  · have hlt2 : k < xs.length := by rw [HN.out]; exact hlt
    have hs1 := HST.out k hlt2
    have hs2 := HSL.out (k + 1)
    obtain ⟨g, o, rfl, hg, _, hra⟩ := HAT.out k hlt2
    obtain ⟨c0, a1, p1, c1, hp1, hattrs⟩ := EnAt.parts hra
    have hce : EnS.cE xs[k] = 1 + xs[k].name.length / 100 + EnS.sumBy EnS.cA xs[k].attrs := rfl
    clear hra
    generalize xs[k] = x at *
    clear hlt2
    obtain ⟨name, attrs⟩ := x
    simp only at c0 c1 hp1 hattrs hce
    have hAT1 := SliceP.at hattrs
    obtain ⟨_, _, e1, _, hat1⟩ := hAT1
    cases e1
    have HAT1 := hZ9 hat1
    have hl1 := cost_attrs attrs
    have HST1 := hZ9 (fun k (h : k < attrs.length) => EnS.sumBy_take (f := EnS.cA) h)
    have HSL1 := hZ9 (fun k => EnS.sumBy_le (f := EnS.cA) attrs k)
    clear hat1 hattrs
    have hq := quo_hundred name.length
    generalize hqq : name.length / 100 = q at *
    generalize hS1g : EnS.sumBy EnS.cE (xs.take (k + 1)) = S1 at *
    have HS1 := hZ9 hS1g
    clear hS1g
    generalize EnS.sumBy EnS.cE (xs.take k) = S0 at *
    generalize EnS.sumBy EnS.cE xs = SS at *
    generalize hSA : EnS.sumBy EnS.cA attrs = SA at *
    have HSA := hZ9 hSA
    clear hSA hqq
    rw [hce] at hs1
    clear hce
    generalize hn1 : attrs.length = n1 at c1 hp1 hl1 ⊢
    have HN1 := hZ9 hn1
    clear hn1
    go_wp2_with fail
    go_loop [3, 28] (fun m i => ∃ j : Nat, j <= n1 /\ i = .int .i64 j /\ m = .int .i64 (S0 + 1 + q + EnS.sumBy EnS.cA (attrs.take j) : Nat)) (fun _ i => n1 - (intOf i).toNat)
    case atStart => exact ⟨0, Nat.zero_le _, rfl, by simp [EnS.sumBy]⟩
    case round =>
     obtain ⟨j, hj, rfl, rfl⟩ := hrel
     have ht0 := HSL1.out j
     by_cases hlt1 : j < n1
     · have hlt2 : j < attrs.length := by rw [HN1.out]; exact hlt1
       have ht1 := HST1.out j hlt2
       have ht2 := HSL1.out (j + 1)
       obtain ⟨g1, o1, rfl, hg1, _, hra1⟩ := HAT1.out j hlt2
       obtain ⟨d0, a2, p2, d1, hp2, hvals⟩ := AttrAt.parts hra1
       have hca : EnS.cA attrs[j] = 1 + attrs[j].vals.length + EnS.sumBy EnS.cV attrs[j].vals := rfl
       clear hra1
       generalize attrs[j] = y at *
       clear hlt2
       obtain ⟨ty, vals⟩ := y
       simp only at d0 d1 hp2 hvals hca
       obtain ⟨_, _, e2, _, hat2⟩ := SliceP.at hvals
       cases e2
       have HAT2 := hZ9 hat2
       have HST2 := hZ9 (fun k (h : k < vals.length) => EnS.sumBy_take (f := EnS.cV) h)
       have HSL2 := hZ9 (fun k => EnS.sumBy_le (f := EnS.cV) vals k)
       clear hat2 hvals
       generalize hT1g : EnS.sumBy EnS.cA (attrs.take (j + 1)) = T1 at *
       have HT1 := hZ9 hT1g
       clear hT1g
       generalize EnS.sumBy EnS.cA (attrs.take j) = T0 at *
       generalize hSV : EnS.sumBy EnS.cV vals = SV at *
       have HSV := hZ9 hSV
       clear hSV
       rw [hca] at ht1
       clear hca
       generalize hn2 : vals.length = n2 at d1 hp2 ht1 ⊢
       have HN2 := hZ9 hn2
       clear hn2
       go_wp2_with fail
       go_loop [3, 54] (fun m i => ∃ t : Nat, t <= n2 /\ i = .int .i64 t /\ m = .int .i64 (S0 + 1 + q + T0 + 1 + n2 + EnS.sumBy EnS.cV (vals.take t) : Nat)) (fun _ i => n2 - (intOf i).toNat)
       case atStart => exact ⟨0, Nat.zero_le _, rfl, by simp [EnS.sumBy]⟩
       case round =>
        obtain ⟨t, ht, rfl, rfl⟩ := hrel
        have hv0 := HSL2.out t
        by_cases hlt3 : t < n2
        · have hlt2 : t < vals.length := by rw [HN2.out]; exact hlt3
          have hv1 := HST2.out t hlt2
          have hv2 := HSL2.out (t + 1)
          obtain ⟨g2, o2, rfl, hg2, _, hra2⟩ := HAT2.out t hlt2
          have r0 : w.cell? ⟨g2, o2 + t, none⟩ = some (strV vals[t]) := by
           have : w.cell? ⟨g2, o2 + t * 1, none⟩ = some (strV vals[t]) := hra2
           rwa [Nat.mul_one] at this
          unfold strV at r0
          have hcv : EnS.cV vals[t] = vals[t].length / 100 := rfl
          clear hra2
          generalize vals[t] = z at *
          clear hlt2
          have hq2 := quo_hundred z.length
          rw [hcv] at hv1
          generalize z.length / 100 = q2 at *
          generalize hV1g : EnS.sumBy EnS.cV (vals.take (t + 1)) = V1 at *
          have HV1 := hZ9 hV1g
          clear hV1g
          generalize EnS.sumBy EnS.cV (vals.take t) = V0 at *
          go_wp2_with fail
          go_round
          case rel => exact ⟨t + 1, by omega, by go_num, by rw [HV1.out]; subst hv1; go_num⟩
          case measure => simp [intOf]; omega
        · have hkn : t = n2 := by omega
          subst hkn
          have hall : vals.take t = vals := List.take_of_length_le (by rw [HN2.out]; omega)
          rw [hall, HSV.out]
          go_wp2_with fail
          go_round
          case rel => exact ⟨j + 1, by omega, by go_num, by rw [HT1.out]; subst ht1; go_num⟩
          case measure => simp [intOf]; omega
     · have hkn : j = n1 := by omega
       subst hkn
       have hall : attrs.take j = attrs := List.take_of_length_le (by rw [HN1.out]; omega)
       rw [hall, HSA.out]
       have hS1 : S0 + 1 + q + SA = S1 := by omega
       rw [hS1]
       by_cases h3000 : 3000 < S1
       · have hz : (3000 : Int) < (S1 : Int) := by omega
         go_wp2_with fail
         go_ret
         exact ⟨false, rfl, rfl, fun h => by cases h⟩
       · have hz : decide ((3000 : Int) < (S1 : Int)) = false := decide_eq_false (by omega)
         go_wp2_with fail
         go_round
         case rel => exact ⟨k + 1, by omega, by go_num, by rw [HS1.out], fun _ => by rw [HS1.out]; omega⟩
         case measure => simp [intOf]; omega
  · have hall : xs.take k = xs := List.take_of_length_le (by rw [HN.out]; omega)
    rw [hall] at h3
    have HR : Hid (EnS.sumBy EnS.cE xs <= 3000) := hZ9 (by
     rcases Nat.eq_zero_or_pos k with h0 | h0
     · have : xs = [] := List.eq_nil_of_length_eq_zero (by rw [HN.out]; omega)
       rw [this]; decide
     · exact h3 h0)
    go_wp2_with fail
    go_ret
    exact ⟨true, rfl, rfl, fun _ => HR.out⟩
end
section
open Go.RowKit
theorem Whole.grown {α : Type} {L : KLay α} {T T' : TypeId} {Ts : List TypeId} {w w' : World} {C B g : Nat} {v : Value} {xs : List α} {cs : Array Value} (h : Whole w g T' cs) (ho : OwnK L T Ts C w B v xs) (hT : T ≠ T') (hg : w.grownBy w' v.ownBlock) : Whole w' g T' cs := by
 refine (hg.block g h.lt (fun e => ?_)).trans h
 obtain ⟨us, h1, _⟩ := ho
 obtain ⟨c, fz, h2⟩ := Lib.ownsRow_kind h1 g e.symm
 unfold Whole at h
 rw [h] at h2
 cases h2
 exact hT rfl
theorem Own.nilOf {w : World} {B : Nat} {v : Value} {xs : List (List UInt8)} (h : Own w B v ([] ++ xs)) : Own w B v xs := h
end
end Go.Proofs.YtjmfknfponjgkaaGreatDoor
