/- Slices of texts, of attributes and of entries in memory, each block of which has a property. Conditions: as stated. -/
import Derived.Laws.StructEq
import Derived.Lib.Builder
import Derived.Laws.Externs
import Derived.Lib.AppendStr
import Derived.Deep.MidRow
import Derived.Deep.Upon
import Derived.BigQuiet
import Derived.Test.YtjmfknfponjgkaaGreatDoorJMem
import Derived.Test.YtjmfknfponjgkaaGreatDoorJRuS
set_option maxRecDepth 100000
namespace Go.Proofs.YtjmfknfponjgkaaGreatDoor
section
open Go.RowKit
namespace EnS
def sumBy {α : Type} (f : α -> Nat) : List α -> Nat
 | [] => 0
 | x :: r => f x + sumBy f r
theorem sumBy_append {α : Type} (f : α -> Nat) : ∀ (l r : List α), sumBy f (l ++ r) = sumBy f l + sumBy f r
 | [], r => by show sumBy f r = 0 + sumBy f r; omega
 | x :: l, r => by
  show f x + sumBy f (l ++ r) = f x + sumBy f l + sumBy f r
  rw [sumBy_append f l r]; omega
theorem sumBy_take {α : Type} {f : α -> Nat} {l : List α} {k : Nat} (hk : k < l.length) : sumBy f (l.take (k + 1)) = sumBy f (l.take k) + f l[k] := by
 rw [List.take_succ_eq_append_getElem hk, sumBy_append]
 rfl
theorem sumBy_le {α : Type} {f : α -> Nat} (l : List α) (k : Nat) : sumBy f (l.take k) <= sumBy f l := by
 have h := sumBy_append f (l.take k) (l.drop k)
 rw [List.take_append_drop] at h
 omega
theorem sumBy_mem {α : Type} {f : α -> Nat} {x : α} : ∀ {l : List α}, x ∈ l -> f x <= sumBy f l
 | [], h => by cases h
 | y :: l, h => by
  show f x <= f y + sumBy f l
  rcases List.mem_cons.1 h with rfl | h
  · omega
  · have := sumBy_mem (f := f) h; omega
theorem sumBy_len {α : Type} {f : α -> Nat} (h : ∀ x, 1 <= f x) : ∀ l : List α, l.length <= sumBy f l
 | [] => Nat.le_refl _
 | x :: l => by
  have := sumBy_len h l
  have := h x
  show l.length + 1 <= f x + sumBy f l
  omega
theorem sumBy_one {α : Type} (f : α -> Nat) : ∀ l : List α, sumBy (fun x => 1 + f x) l = l.length + sumBy f l
 | [] => rfl
 | x :: l => by
  show 1 + f x + sumBy (fun x => 1 + f x) l = (l.length + 1) + (f x + sumBy f l)
  rw [sumBy_one f l]; omega
def cV (v : List UInt8) : Nat := v.length / 100
def cA (a : At) : Nat := 1 + a.vals.length + sumBy cV a.vals
def cE (e : En) : Nat := 1 + e.name.length / 100 + sumBy cA e.attrs
end EnS
def SliceP {α : Type} (k : Nat) (El : World -> Nat -> Nat -> α -> Prop) (ok : Nat -> Prop) (w : World) (v : Value) (xs : List α) : Prop :=
 ∃ a c, v = .slice a xs.length c /\ xs.length <= c /\ (xs = [] \/ ∃ g o, a = some ⟨g, o, none⟩ /\ g < w.heap.size /\ ok g /\ ∀ (j : Nat) (x : α), xs[j]? = some x -> El w g (o + j * k) x)
theorem SliceP.imp {α : Type} {k : Nat} {El El' : World -> Nat -> Nat -> α -> Prop} {ok ok' : Nat -> Prop} {w w' : World} {v : Value} {xs : List α} (h : SliceP k El ok w v xs) (hs : w.heap.size <= w'.heap.size)
  (hk : ∀ g, g < w.heap.size -> ok g -> ok' g) (hE : ∀ g o x, g < w.heap.size -> ok g -> El w g o x -> El' w' g o x) : SliceP k El' ok' w' v xs := by
 obtain ⟨a, c, e, hc, h⟩ := h
 refine ⟨a, c, e, hc, ?_⟩
 rcases h with h | ⟨g, o, ha, hg, hok, h⟩
 · exact .inl h
 · exact .inr ⟨g, o, ha, Nat.lt_of_lt_of_le hg hs, hk g hg hok, fun j x hj => hE g _ x hg hok (h j x hj)⟩
theorem SliceP.at {α : Type} {k : Nat} {El : World -> Nat -> Nat -> α -> Prop} {ok : Nat -> Prop} {w : World} {v : Value} {xs : List α} (h : SliceP k El ok w v xs) :
  ∃ a c, v = .slice a xs.length c /\ xs.length <= c /\ ∀ j (hj : j < xs.length), ∃ g o, a = some ⟨g, o, none⟩ /\ g < w.heap.size /\ ok g /\ El w g (o + j * k) xs[j] := by
 obtain ⟨a, c, e, hc, h⟩ := h
 refine ⟨a, c, e, hc, fun j hj => ?_⟩
 rcases h with rfl | ⟨g, o, ha, hg, hok, h⟩
 · simp at hj
 · exact ⟨g, o, ha, hg, hok, h j _ (List.getElem?_eq_getElem hj)⟩
theorem SliceP.form {α : Type} {k : Nat} {El : World -> Nat -> Nat -> α -> Prop} {ok : Nat -> Prop} {w : World} {v : Value} {xs : List α} (h : SliceP k El ok w v xs) : ∃ a c, v = .slice a xs.length c /\ xs.length <= c := by
 obtain ⟨a, c, e, hc, _⟩ := h
 exact ⟨a, c, e, hc⟩
theorem SliceP.nil {α : Type} {k : Nat} {El : World -> Nat -> Nat -> α -> Prop} {ok : Nat -> Prop} {w : World} (a : Option Addr) (c : Nat) : SliceP (α := α) k El ok w (.slice a 0 c) [] := ⟨a, c, rfl, Nat.zero_le _, .inl rfl⟩
theorem SliceP.take {α : Type} {k : Nat} {El : World -> Nat -> Nat -> α -> Prop} {ok : Nat -> Prop} {w : World} {a : Option Addr} {n c : Nat} {xs : List α} (h : SliceP k El ok w (.slice a n c) xs) {m : Nat} (hm : m <= n) : SliceP k El ok w (.slice a m c) (xs.take m) := by
 obtain ⟨a', c', e, hc, hcase⟩ := h
 cases e
 have hl : (xs.take m).length = m := by rw [List.length_take]; omega
 refine ⟨a, c, by rw [hl], by rw [hl]; omega, ?_⟩
 rcases hcase with rfl | ⟨g, o, rfl, hg, hok, hcell⟩
 · exact .inl (by simp)
 · refine .inr ⟨g, o, rfl, hg, hok, fun j y hj => ?_⟩
   rw [List.getElem?_take] at hj
   split at hj
   · exact hcell j y hj
   · cases hj
def StrAt (w : World) (g o : Nat) (y : List UInt8) : Prop := w.cell? ⟨g, o, none⟩ = some (strV y)
def StrsP (ok : Nat -> Prop) (w : World) (v : Value) (xs : List (List UInt8)) : Prop := SliceP 1 StrAt ok w v xs
theorem StrsP.strs {ok : Nat -> Prop} {w : World} {v : Value} {xs : List (List UInt8)} (h : StrsP ok w v xs) : StrsIn w v xs := by
 obtain ⟨a, c, e, hc, h⟩ := h
 refine ⟨a, c, e, hc, ?_⟩
 rcases h with h | ⟨g, o, ha, hg, hok, h⟩
 · exact .inl h
 · exact .inr ⟨g, o, ha, hg, fun j y hj => by have := h j y hj; rwa [Nat.mul_one] at this⟩
theorem StrsIn.strsP {w : World} {v : Value} {xs : List (List UInt8)} (h : StrsIn w v xs) (ok : Nat -> Prop) (hok : ∀ g, v.ownBlock = some g -> ok g) : StrsP ok w v xs := by
 obtain ⟨a, c, rfl, hc, h⟩ := h
 refine ⟨a, c, rfl, hc, ?_⟩
 rcases h with h | ⟨g, o, rfl, hg, h⟩
 · exact .inl h
 · exact .inr ⟨g, o, rfl, hg, hok g rfl, fun j y hj => by rw [Nat.mul_one]; exact h j y hj⟩
theorem StrsP.keep {ok ok' : Nat -> Prop} {w w' : World} {v : Value} {xs : List (List UInt8)} (h : StrsP ok w v xs) (hs : w.heap.size <= w'.heap.size)
  (hb : ∀ g, g < w.heap.size -> ok g -> w'.heap[g]? = w.heap[g]?) (hk : ∀ g, g < w.heap.size -> ok g -> ok' g) : StrsP ok' w' v xs :=
 h.imp hs hk fun g o _ hg hok hx => (World.cell?_of_block (a := ⟨g, o, none⟩) (hb g hg hok)).trans hx
def AttrAt (ok : Nat -> Prop) (w : World) (g o : Nat) (x : EnS.At) : Prop := w.cell? ⟨g, o, none⟩ = some (strV x.typ) /\ ∃ u, w.cell? ⟨g, o + 1, none⟩ = some u /\ StrsP ok w u x.vals
theorem AttrAt.keep {ok ok' : Nat -> Prop} {w w' : World} {g o : Nat} {x : EnS.At} (h : AttrAt ok w g o x) (hg : g < w.heap.size) (hok : ok g) (hs : w.heap.size <= w'.heap.size)
  (hb : ∀ g, g < w.heap.size -> ok g -> w'.heap[g]? = w.heap[g]?) (hk : ∀ g, g < w.heap.size -> ok g -> ok' g) : AttrAt ok' w' g o x := by
 obtain ⟨h1, u, h2, h3⟩ := h
 exact ⟨(World.cell?_of_block (a := ⟨g, o, none⟩) (hb g hg hok)).trans h1, u, (World.cell?_of_block (a := ⟨g, o + 1, none⟩) (hb g hg hok)).trans h2, h3.keep hs hb hk⟩
def AttrsP (ok : Nat -> Prop) (w : World) (v : Value) (xs : List EnS.At) : Prop := SliceP 2 (AttrAt ok) ok w v xs
theorem AttrsP.keep {ok ok' : Nat -> Prop} {w w' : World} {v : Value} {xs : List EnS.At} (h : AttrsP ok w v xs) (hs : w.heap.size <= w'.heap.size)
  (hb : ∀ g, g < w.heap.size -> ok g -> w'.heap[g]? = w.heap[g]?) (hk : ∀ g, g < w.heap.size -> ok g -> ok' g) : AttrsP ok' w' v xs :=
 SliceP.imp h hs hk fun _ _ _ hg hok hx => hx.keep hg hok hs hb hk
def EnAt (ok : Nat -> Prop) (w : World) (g o : Nat) (x : EnS.En) : Prop := w.cell? ⟨g, o, none⟩ = some (strV x.name) /\ ∃ u, w.cell? ⟨g, o + 1, none⟩ = some u /\ AttrsP ok w u x.attrs
theorem EnAt.keep {ok ok' : Nat -> Prop} {w w' : World} {g o : Nat} {x : EnS.En} (h : EnAt ok w g o x) (hg : g < w.heap.size) (hok : ok g) (hs : w.heap.size <= w'.heap.size)
  (hb : ∀ g, g < w.heap.size -> ok g -> w'.heap[g]? = w.heap[g]?) (hk : ∀ g, g < w.heap.size -> ok g -> ok' g) : EnAt ok' w' g o x := by
 obtain ⟨h1, u, h2, h3⟩ := h
 exact ⟨(World.cell?_of_block (a := ⟨g, o, none⟩) (hb g hg hok)).trans h1, u, (World.cell?_of_block (a := ⟨g, o + 1, none⟩) (hb g hg hok)).trans h2, h3.keep hs hb hk⟩
def EnsP (ok : Nat -> Prop) (w : World) (v : Value) (xs : List EnS.En) : Prop := SliceP 2 (EnAt ok) ok w v xs
theorem EnsP.keep {ok ok' : Nat -> Prop} {w w' : World} {v : Value} {xs : List EnS.En} (h : EnsP ok w v xs) (hs : w.heap.size <= w'.heap.size)
  (hb : ∀ g, g < w.heap.size -> ok g -> w'.heap[g]? = w.heap[g]?) (hk : ∀ g, g < w.heap.size -> ok g -> ok' g) : EnsP ok' w' v xs :=
 SliceP.imp h hs hk fun _ _ _ hg hok hx => hx.keep hg hok hs hb hk
theorem StrsP.call {ok : Nat -> Prop} {w w' : World} {v : Value} {xs : List (List UInt8)} (h : StrsP ok w v xs) (hb : Below w.heap.size w w') : StrsP ok w' v xs := h.keep hb.size (fun g hg _ => hb.block g hg) (fun _ _ h => h)
theorem AttrsP.call {ok : Nat -> Prop} {w w' : World} {v : Value} {xs : List EnS.At} (h : AttrsP ok w v xs) (hb : Below w.heap.size w w') : AttrsP ok w' v xs := h.keep hb.size (fun g hg _ => hb.block g hg) (fun _ _ h => h)
theorem EnsP.call {ok : Nat -> Prop} {w w' : World} {v : Value} {xs : List EnS.En} (h : EnsP ok w v xs) (hb : Below w.heap.size w w') : EnsP ok w' v xs := h.keep hb.size (fun g hg _ => hb.block g hg) (fun _ _ h => h)
theorem AttrAt.call {ok : Nat -> Prop} {w w' : World} {g o : Nat} {x : EnS.At} (h : AttrAt ok w g o x) (hg : g < w.heap.size) (hok : ok g) (hb : Below w.heap.size w w') : AttrAt ok w' g o x := h.keep hg hok hb.size (fun g hg _ => hb.block g hg) (fun _ _ h => h)
theorem EnAt.call {ok : Nat -> Prop} {w w' : World} {g o : Nat} {x : EnS.En} (h : EnAt ok w g o x) (hg : g < w.heap.size) (hok : ok g) (hb : Below w.heap.size w w') : EnAt ok w' g o x := h.keep hg hok hb.size (fun g hg _ => hb.block g hg) (fun _ _ h => h)
theorem StrsP.any {ok : Nat -> Prop} {w : World} {v : Value} {xs : List (List UInt8)} (h : StrsP ok w v xs) : StrsP (fun _ => True) w v xs := h.keep (Nat.le_refl _) (fun _ _ _ => rfl) (fun _ _ _ => trivial)
theorem AttrsP.any {ok : Nat -> Prop} {w : World} {v : Value} {xs : List EnS.At} (h : AttrsP ok w v xs) : AttrsP (fun _ => True) w v xs := h.keep (Nat.le_refl _) (fun _ _ _ => rfl) (fun _ _ _ => trivial)
theorem EnsP.any {ok : Nat -> Prop} {w : World} {v : Value} {xs : List EnS.En} (h : EnsP ok w v xs) : EnsP (fun _ => True) w v xs := h.keep (Nat.le_refl _) (fun _ _ _ => rfl) (fun _ _ _ => trivial)
abbrev AttrsIn : World -> Value -> List EnS.At -> Prop := AttrsP (fun _ => True)
abbrev EnsIn : World -> Value -> List EnS.En -> Prop := EnsP (fun _ => True)
theorem EnAt.parts {w : World} {g o : Nat} {x : EnS.En} (h : EnAt (fun _ => True) w g o x) : w.cell? ⟨g, o, none⟩ = some (.string ⟨x.name.toArray⟩) /\ ∃ a c, w.cell? ⟨g, o + 1, none⟩ = some (.slice a x.attrs.length c) /\ x.attrs.length <= c /\ AttrsIn w (.slice a x.attrs.length c) x.attrs := by
 obtain ⟨h1, u, h2, h3⟩ := h
 obtain ⟨a, c, rfl, hc⟩ := SliceP.form h3
 exact ⟨h1, a, c, h2, hc, h3⟩
theorem AttrAt.parts {w : World} {g o : Nat} {x : EnS.At} (h : AttrAt (fun _ => True) w g o x) : w.cell? ⟨g, o, none⟩ = some (.string ⟨x.typ.toArray⟩) /\ ∃ a c, w.cell? ⟨g, o + 1, none⟩ = some (.slice a x.vals.length c) /\ x.vals.length <= c /\ StrsP (fun _ => True) w (.slice a x.vals.length c) x.vals := by
 obtain ⟨h1, u, h2, h3⟩ := h
 obtain ⟨a, c, rfl, hc⟩ := SliceP.form h3
 exact ⟨h1, a, c, h2, hc, h3⟩
end
section
open Go.RowKit
def AvasIn (w : World) (v : Value) (xs : List RdS.Pr) : Prop :=
 ∃ a c, v = .slice a xs.length c /\ xs.length <= c /\ (xs = [] \/ ∃ g o, a = some ⟨g, o, none⟩ /\ g < w.heap.size /\
  ∀ (j : Nat) (p : RdS.Pr), xs[j]? = some p -> w.cell? ⟨g, o + j * 2, none⟩ = some (strV p.1) /\ w.cell? ⟨g, o + j * 2 + 1, none⟩ = some (strV p.2))
theorem AvasIn.call {w w' : World} {v : Value} {xs : List RdS.Pr} (h : AvasIn w v xs) {B : Nat} (hb : Below B w w') (hB : w.heap.size <= B) : AvasIn w' v xs := by
 obtain ⟨a, c, rfl, hc, h⟩ := h
 refine ⟨a, c, rfl, hc, ?_⟩
 rcases h with h | ⟨g, o, rfl, hg, h⟩
 · exact .inl h
 · refine .inr ⟨g, o, rfl, Nat.lt_of_lt_of_le hg hb.size, fun j p hj => ⟨?_, ?_⟩⟩
   · exact (hb.cell (p := ⟨g, o + j * 2, none⟩) (Nat.lt_of_lt_of_le hg hB)).trans (h j p hj).1
   · exact (hb.cell (p := ⟨g, o + j * 2 + 1, none⟩) (Nat.lt_of_lt_of_le hg hB)).trans (h j p hj).2
theorem AvasIn.empty (w : World) : AvasIn w (.slice none 0 0) [] := ⟨Option.none, 0, rfl, Nat.le_refl _, .inl rfl⟩
def avaC (xs : List RdS.Pr) : List Value := xs.flatMap fun p => [strV p.1, strV p.2]
theorem avaC_len (xs : List RdS.Pr) : (avaC xs).length = xs.length * 2 := by
 induction xs with
 | nil => rfl
 | cons p xs ih => show ([strV p.1, strV p.2] ++ avaC xs).length = _; rw [List.length_append, ih]; simp; omega
theorem avaC_append (xs ys : List RdS.Pr) : avaC (xs ++ ys) = avaC xs ++ avaC ys := by unfold avaC; rw [List.flatMap_append]
theorem avaC_at : ∀ (xs : List RdS.Pr) (j : Nat) (p : RdS.Pr), xs[j]? = some p -> (avaC xs)[j * 2]? = some (strV p.1) /\ (avaC xs)[j * 2 + 1]? = some (strV p.2)
 | [], j, p, h => by simp at h
 | q :: xs, 0, p, h => by have := Option.some.inj h; subst this; exact ⟨rfl, rfl⟩
 | q :: xs, j + 1, p, h => by
  have := avaC_at xs j p (by simpa using h)
  have e : avaC (q :: xs) = strV q.1 :: strV q.2 :: avaC xs := rfl
  rw [e, show (j + 1) * 2 = j * 2 + 1 + 1 from by omega]
  exact this
def OwnA (T : TypeId) (w : World) (B : Nat) (v : Value) (xs : List RdS.Pr) : Prop := w.ownsRow B T 2 v xs.length (avaC xs)
theorem OwnA.empty (T : TypeId) (w : World) (B : Nat) : OwnA T w B (.slice none 0 0) [] := World.ownsRow_nil w B _ 2
theorem OwnA.form {T : TypeId} {w : World} {B : Nat} {v : Value} {xs : List RdS.Pr} (h : OwnA T w B v xs) : ∃ a c, v = .slice a xs.length c := by
 rcases h.2 with ⟨rfl, hn⟩ | ⟨g, cap, cur, rfl, _⟩
 · exact ⟨_, _, by rw [hn]⟩
 · exact ⟨_, _, rfl⟩
theorem OwnA.call {T : TypeId} {w w' : World} {B : Nat} {v : Value} {xs : List RdS.Pr} (h : OwnA T w B v xs) (hb : Below w.heap.size w w') : OwnA T w' B v xs :=
 World.ownsRow.kept h (grown_none hb) (by cases v.ownBlock <;> simp)
theorem OwnA.alloc {T : TypeId} {w : World} {B : Nat} {v : Value} {xs : List RdS.Pr} (h : OwnA T w B v xs) (o : Obj) : OwnA T (w.alloc o) B v xs := World.ownsRow.alloc h o
theorem OwnA.avas {T : TypeId} {w : World} {B : Nat} {v : Value} {xs : List RdS.Pr} (h : OwnA T w B v xs) : AvasIn w v xs := by
 rcases h.2 with ⟨rfl, hn⟩ | ⟨g, cap, cur, rfl, hg, hh, hn, hm, hsz, htk⟩
 · exact ⟨Option.none, 0, by rw [hn], by omega, .inl (List.eq_nil_of_length_eq_zero hn)⟩
 · refine ⟨some ⟨g, 0, Option.none⟩, cap, rfl, hn, .inr ⟨g, 0, rfl, (Array.getElem?_eq_some_iff.1 hh).1, fun j p hj => ?_⟩⟩
   have h2 := avaC_at xs j p hj
   have hadd : ∀ k, (⟨g, 0, Option.none⟩ : Addr).add k = ⟨g, 0 + k, Option.none⟩ := fun k => by unfold Addr.add; split <;> simp_all
   have c1 := World.ownsRow.cells h (g := g) rfl _ _ h2.1
   have c2 := World.ownsRow.cells h (g := g) rfl _ _ h2.2
   rw [hadd] at c1 c2
   exact ⟨c1, by rw [Nat.add_assoc]; exact c2⟩
theorem push_ava {w : World} {ops : Array Oper} {rest : List Oper} {o : Oper} {a : Act} {Q : Exit -> Act -> World -> Prop} (T sT : TypeId) (hsT : Tryz.prog.underlying sT = some (.slice T)) {i0 : TypeInfo} {z : Value}
  (hi : Tryz.prog.info? T = some i0) (hz : i0.zero = some z) (hsz2 : i0.size = 2) (hby : i0.bytes = 32) (hzs : z.cells.size = 2) (hgd : o.guard = none) (s x : Operand)
  (ho : o.op = .call { callee := .builtin .append, args := #[s, x], argTypes := #[sT, sT] })
  (B : Nat) (v : Value) (xs : List RdS.Pr) (hs : a.eval s = v) (hown : OwnA T w B v xs) (g : Nat) (hx : a.eval x = .slice (some ⟨g, 0, Option.none⟩) 1 1)
  (p : RdS.Pr) (hc0 : w.cell? ⟨g, 0, Option.none⟩ = some (strV p.1)) (hc1 : w.cell? ⟨g, 1, Option.none⟩ = some (strV p.2)) (hn : xs.length <= 1000000000) (hB : B <= w.heap.size)
  (h : ∀ v' w', OwnA T w' B v' (xs ++ [p]) -> Below B w w' -> wpList Tryz.prog ops Q rest (a.put o.dst v') w') : wpList Tryz.prog ops Q (o :: rest) a w := by
 refine wpList_append_own w hgd s x _ ho B T i0 z 2 32 hsT hi hz hsz2 hby hzs (by decide) v xs.length (avaC xs) hs hown ⟨g, 0, Option.none⟩ 1 1 [strV p.1, strV p.2] hx rfl
  (fun j u hj => ?_) (fun u hu => ?_) (by unfold maxLen; omega) (by omega) hB (fun v' w' h1 h2 _ => h v' w' ?_ ?_)
 · have hadd : ∀ k, (⟨g, 0, Option.none⟩ : Addr).add k = ⟨g, k, Option.none⟩ := fun k => by unfold Addr.add; split <;> simp_all
   rw [hadd]
   match j, hj with
   | 0, hj => rw [hc0]; simpa using hj
   | 1, hj => rw [hc1]; simpa using hj
 · simp only [List.mem_cons, List.not_mem_nil, or_false] at hu
   rcases hu with rfl | rfl <;> rfl
 · unfold OwnA
   rw [avaC_append, List.length_append]
   exact h1
 · exact (Below.refl B w).grown h2 hB (fun k hk => (World.ownsRow.lt hown k hk).1)
end
section
open Go.RowKit
def Bld (B b : Nat) (l : List UInt8) (w : World) : Prop := Lib.IsBuilder 63 5 B b (l.map byteV) w
def BldU (B b : Nat) (l : List UInt8) (w : World) : Prop := Lib.BuilderAt 63 5 B b (.pointer (some ⟨b, 0, none⟩)) (l.map byteV) w
theorem BldU.bld {B b : Nat} {l : List UInt8} {w : World} (h : BldU B b l w) : Bld B b l w := .inr h
theorem Bld.fresh (w : World) : Bld w.heap.size w.heap.size [] (w.alloc (.cells #[.pointer none, .slice none 0 0] 63)) := Lib.fresh_isBuilder _ _ w
theorem Bld.lt {B b : Nat} {l : List UInt8} {w : World} (h : Bld B b l w) : b < w.heap.size /\ B <= b := by
 rcases h with h | h
 · exact ⟨h.lt, h.1⟩
 · exact ⟨h.lt, h.1⟩
theorem bldAt_call {B b : Nat} {p : Value} {bs : List Value} {w w' : World} (h : Lib.BuilderAt 63 5 B b p bs w) (hb : Below w.heap.size w w') : Lib.BuilderAt 63 5 B b p bs w' := by
 have hlt := h.lt
 obtain ⟨hB, v, hbk, hown, hne⟩ := h
 exact ⟨hB, v, by rw [hb.block b hlt]; exact hbk, World.ownsRow.kept hown (grown_none hb) (by cases v.ownBlock <;> simp), hne⟩
theorem Bld.call {B b : Nat} {l : List UInt8} {w w' : World} (h : Bld B b l w) (hb : Below w.heap.size w w') : Bld B b l w' := by
 rcases h with h | h
 · exact .inl (bldAt_call h hb)
 · exact .inr (bldAt_call h hb)
theorem Bld.alloc {B b : Nat} {l : List UInt8} {w : World} (h : Bld B b l w) (o : Obj) : Bld B b l (w.alloc o) := h.call (grow1 w o)
theorem Bld.drew {B b : Nat} {l : List UInt8} {w : World} (h : Bld B b l w) : Bld B b l w.drew := h.call ((Below.refl _ _).drew)
theorem bld_ne : (63 : Nat) ≠ 5 := by decide
theorem infoBld : (Tryz.prog.info? 63).map (·.size) = some 2 := by kernel_rfl
theorem liesBld : liesAt Tryz.prog Tryz.prog.depth 63 (2 / Tryz.prog.cellsOf 63) 0 63 1 = true := by kernel_rfl
def Others (b : Nat) (w w' : World) : Prop := ∀ k, k < w.heap.size -> k ≠ b -> (∀ cs fz, w.heap[k]? ≠ some (.cells cs 5 fz)) -> w'.heap[k]? = w.heap[k]?
theorem Others.refl (b : Nat) (w : World) : Others b w w := fun _ _ _ _ => rfl
theorem Others.trans {b : Nat} {u v w : World} (h : Others b u v) (h2 : Others b v w) (hs : u.heap.size <= v.heap.size) : Others b u w := fun k hk hb hn => by
 have e := h k hk hb hn
 rw [h2 k (by omega) hb (by rw [e]; exact hn), e]
theorem Others.alloc {b : Nat} {w w' : World} (h : Others b w w') (hs : w.heap.size <= w'.heap.size) (o : Obj) : Others b w (w'.alloc o) := fun k hk hb hn => by
 rw [Below.heap_alloc _ _ _ (by omega)]; exact h k hk hb hn
theorem Others.drew {b : Nat} {w w' : World} (h : Others b w w') : Others b w w'.drew := h
theorem Others.of_ne {b : Nat} {w w' : World} (h : ∀ k, k ≠ b -> w'.heap[k]? = w.heap[k]?) : Others b w w' := fun k _ hb _ => h k hb
theorem Others.grown {b : Nat} {w w2 : World} {B : Nat} {v : Value} {n : Nat} {xs : List Value} (hg : w.grownBy w2 v.ownBlock) (hown : w.ownsRow B 5 1 v n xs) : Others b w w2 := fun k hk _ hn => by
 refine hg.block k hk (fun e => ?_)
 rcases hown.2 with ⟨rfl, _⟩ | ⟨g, cap, cur, rfl, _, hh, _⟩
 · cases e
 · cases e; exact hn _ _ hh
theorem Others.setCell {b : Nat} {w w' : World} (h : Others b w w') (i : Nat) (u : Value) : Others b w (w'.setCell ⟨b, i, none⟩ u) := fun k hk hb hn => by
 rw [Below.heap_setCell _ _ _ _ hb]; exact h k hk hb hn
theorem Others.cell {b : Nat} {w w' : World} (h : Others b w w') {g : Nat} {T : TypeId} {cs : Array Value} (hT : T ≠ 5) (hb : g ≠ b) (hw : Whole w g T cs) : Whole w' g T cs := by
 unfold Whole at hw ⊢
 rw [h g (Array.getElem?_eq_some_iff.1 hw).1 hb (fun cs2 fz e => by rw [hw] at e; cases e; exact hT rfl)]
 exact hw
theorem copyCheck_used (b : Nat) (w : World) (h0 : w.cell? ⟨b, 0, none⟩ = some (.pointer (some ⟨b, 0, none⟩))) :
  Calls Tryz.prog 66 #[.pointer (some ⟨b, 0, none⟩)] w fun e w' => e = .returned (.tuple #[]) /\ w = w' := by
 obtain ⟨j, hj, _⟩ := Option.map_eq_some_iff.1 infoBld
 have hsame := fun w => Lib.run_neq_ptr_same (P := Tryz.prog) w ⟨b, 0, none⟩ Tryz.underlying60 hj
 clear hj
 go_enter Tryz.func66, Tryz.ntmps66
 go_wp2_with fail
 go_end0
 exact ⟨rfl, rfl⟩
theorem copyCheck_fresh (b : Nat) (w : World) (h0 : w.cell? ⟨b, 0, none⟩ = some (.pointer none)) (hsh : w.shape? b = some (63, 2)) (hfz : w.frozen? ⟨b, 0, none⟩ = false) :
  Calls Tryz.prog 66 #[.pointer (some ⟨b, 0, none⟩)] w fun e w' => e = .returned (.tuple #[]) /\ (w.setCell ⟨b, 0, none⟩ (.pointer (some ⟨b, 0, none⟩))) = w' := by
 obtain ⟨j, hj, hjs⟩ := Option.map_eq_some_iff.1 infoBld
 have c1 := Lib.run_to_unsafe (P := Tryz.prog) w ⟨b, 0, none⟩ Tryz.underlying60 Tryz.underlying119 hj (by rw [hjs]; decide) hsh (Nat.zero_lt_succ 1)
 have c2 := Lib.run_from_unsafe (P := Tryz.prog) w ⟨b, 0, none⟩ Tryz.underlying119 Tryz.underlying60 hj hsh liesBld
 have hne : (callFunc 91 #[.pointer (some ⟨b, 0, none⟩)]).run Tryz.prog w = .ok (.value (.pointer (some ⟨b, 0, none⟩))) w := by
  rw [run_callFunc_extern Tryz.func91 (by kernel_rfl) (by kernel_rfl) (by kernel_rfl) (e := Extern.AbiNoEscape.same) (by kernel_rfl), Lib.run_noEscape]
  rfl
 clear hj hjs
 go_enter Tryz.func66, Tryz.ntmps66
 go_wp2_with fail
 go_end0
 exact ⟨rfl, rfl⟩
theorem copyCheck_c (B b : Nat) (l : List UInt8) (w : World) (h : Bld B b l w) :
  Calls Tryz.prog 66 #[.pointer (some ⟨b, 0, none⟩)] w fun e w' => e = .returned (.tuple #[]) /\ BldU B b l w' /\ Below B w w' /\ (∀ k, k ≠ b -> w'.heap[k]? = w.heap[k]?) /\ w.heap.size <= w'.heap.size := by
 rcases h with h | h
 · refine (copyCheck_fresh b w h.cell0 h.shape h.frozen0).mono ?_
   rintro e w' ⟨rfl, rfl⟩
   exact ⟨rfl, h.used _, (Below.refl B w).setCell (p := ⟨b, 0, none⟩) h.1 _, fun k hk => Below.heap_setCell _ _ _ _ hk, by simp [World.setCell]⟩
 · refine (copyCheck_used b w h.cell0).mono ?_
   rintro e w' ⟨rfl, rfl⟩
   exact ⟨rfl, h, Below.refl B _, fun _ _ => rfl, Nat.le_refl _⟩
theorem BldU.open_ {B b : Nat} {l : List UInt8} {w : World} (h : BldU B b l w) : ∃ v, w.heap[b]? = some (.cells #[.pointer (some ⟨b, 0, none⟩), v] 63 (0, 0)) /\ OwnB w B v l /\ v.ownBlock ≠ some b /\ b < w.heap.size /\ B <= b /\
  w.cell? ⟨b, 0, none⟩ = some (.pointer (some ⟨b, 0, none⟩)) /\ w.cell? ⟨b, 1, none⟩ = some v := by
 have hlt := h.lt
 obtain ⟨hB, v, hbk, hown, hne⟩ := h
 refine ⟨v, hbk, ?_, hne, hlt, hB, ?_, ?_⟩
 · unfold OwnB; rw [List.length_map] at hown; exact hown
 · rw [Lib.cell_of_heap hbk]; rfl
 · rw [Lib.cell_of_heap hbk]; rfl
theorem BldU.stored {B b : Nat} {l : List UInt8} {w w2 : World} {v v' : Value} {row : Option Nat} (hbk : w.heap[b]? = some (.cells #[.pointer (some ⟨b, 0, none⟩), v] 63 (0, 0))) (hlt : b < w.heap.size) (hB : B <= b)
  (hg : w.grownBy w2 row) (hne : row ≠ some b) (hown : OwnB w2 B v' l) : w2.cell? ⟨b, 0, none⟩ = some (.pointer (some ⟨b, 0, none⟩)) /\ w2.cell? ⟨b, 1, none⟩ = some v /\ w2.frozen? ⟨b, 1, none⟩ = false /\ BldU B b l (w2.setCell ⟨b, 1, none⟩ v') := by
 have hb2 : w2.heap[b]? = some (.cells #[.pointer (some ⟨b, 0, none⟩), v] 63 (0, 0)) := by
  rw [hg.block b hlt (fun e => hne e.symm)]; exact hbk
 refine ⟨by rw [Lib.cell_of_heap hb2]; rfl, by rw [Lib.cell_of_heap hb2]; rfl, Lib.frozen_of_heap hb2 1, ?_⟩
 exact Lib.BuilderAt.put hB hb2 (by unfold OwnB at hown; rw [List.length_map]; exact hown) bld_ne
theorem writeByte_k (B b : Nat) (l : List UInt8) (c : UInt8) (w : World) (h : Bld B b l w) (hl : l.length <= 900000000) (hBw : B <= w.heap.size) :
  Calls Tryz.prog 41 #[.pointer (some ⟨b, 0, none⟩), .int .u8 (c.toNat : Int)] w fun e w' => e = .returned .nilIface /\ BldU B b (l ++ [c]) w' /\ Below B w w' /\ Others b w w' := by
 have hcc := copyCheck_c B b l w h
 clear h
 go_enter Tryz.func41, Tryz.ntmps41
 go_wp2_with fail
 refine hcc.mono ?_; rintro e w1 ⟨rfl, hu, hb1, hfr, hsz0⟩
 obtain ⟨v, hbk, hown, hne, hlt, hB, c0, c1⟩ := hu.open_
 obtain ⟨a, cp, rfl⟩ := hown.form
 have hsz := hb1.size
 have HOW := hZ9 hown
 have HNE := hZ9 hne
 have HBK := hZ9 hbk
 have HO1 := hZ9 (Others.of_ne hfr)
 clear hcc hne hbk hu hfr
 go_wp2_with (at_builtin; refine push_bytes_g (by rfl) _ _ (by rfl) B _ l (by rfl) (hown.alloc _) w1.heap.size 1 1 (by rfl) [c] (by rfl) ?c1 ?c2 ?c3 ?_)
 case c1 => first | exact one_cell (by simp [go_sem, byteV]) | exact one_list _
 case c2 => simp; omega
 case c3 => simp; omega
 intro v' w2 hown2 hb2 hg2
 have HO2 : Hid (Others b w w2) := hZ9 ((HO1.out.alloc hsz0 _).trans (Others.grown hg2 (OwnB.alloc HOW.out _)) (by simp; omega))
 obtain ⟨a2, cp2, rfl⟩ := hown2.form
 have hbk2 : (w1.alloc (.cells #[.int .u8 (c.toNat : Int)] 5)).heap[b]? = some (.cells #[.pointer (some ⟨b, 0, none⟩), .slice a l.length cp] 63 (0, 0)) := by
  rw [Below.heap_alloc _ _ _ hlt]; exact HBK.out
 obtain ⟨d0, d1, f1, hfin⟩ := BldU.stored hbk2 (by simp; omega) hB hg2 HNE.out hown2
 rw [show (l ++ [c]).length = l.length + 1 from by simp] at hfin
 have HFIN := hZ9 hfin
 clear hbk2 hfin
 go_wp2_with fail
 go_ret
 exact ⟨rfl, HFIN.out, ((hb1.alloc (by omega) _).trans hb2).setCell (p := ⟨b, 1, none⟩) hB _, HO2.out.setCell 1 _⟩
theorem writeByte_c (B b : Nat) (l : List UInt8) (c : UInt8) (w : World) (h : Bld B b l w) (hl : l.length <= 900000000) (hBw : B <= w.heap.size) :
  Calls Tryz.prog 41 #[.pointer (some ⟨b, 0, none⟩), .int .u8 (c.toNat : Int)] w fun e w' => e = .returned .nilIface /\ BldU B b (l ++ [c]) w' /\ Below B w w' :=
 (writeByte_k B b l c w h hl hBw).mono fun _ _ h => ⟨h.1, h.2.1, h.2.2.1⟩
theorem write_k (B b : Nat) (l : List UInt8) (g m cq : Nat) (ys : List UInt8) (w : World) (h : Bld B b l w) (hl : l.length + m <= 900000000) (hBw : B <= w.heap.size) (hm : ys.length = m) (hgb : g ≠ b)
  (hy : ∀ (j : Nat) (y : UInt8), ys[j]? = some y -> w.cell? ⟨g, j, none⟩ = some (byteV y)) :
  Calls Tryz.prog 67 #[.pointer (some ⟨b, 0, none⟩), .slice (some ⟨g, 0, none⟩) m cq] w fun e w' => e = .returned (.tuple #[.int .i64 m, .nilIface]) /\ BldU B b (l ++ ys) w' /\ Below B w w' /\ Others b w w' := by
 have hcc := copyCheck_c B b l w h
 clear h
 go_enter Tryz.func67, Tryz.ntmps67
 go_wp2_with fail
 refine hcc.mono ?_; rintro e w1 ⟨rfl, hu, hb1, hfr, hsz0⟩
 have hyc : ∀ (j : Nat) (y : UInt8), ys[j]? = some y -> w1.cell? ⟨g, j, none⟩ = some (byteV y) := fun j y hj =>
  (World.cell?_of_block (a := ⟨g, j, none⟩) (hfr g hgb)).trans (hy j y hj)
 have HYC := hZ9 hyc
 clear hy hyc
 obtain ⟨v, hbk, hown, hne, hlt, hB, c0, c1⟩ := hu.open_
 obtain ⟨a, cp, rfl⟩ := hown.form
 have hsz := hb1.size
 have HOW := hZ9 hown
 have HNE := hZ9 hne
 have HBK := hZ9 hbk
 have HM := hZ9 hm
 have HO1 := hZ9 (Others.of_ne hfr)
 clear hcc hne hbk hu hm hfr
 go_wp2_with (at_builtin; refine push_bytes_g (by rfl) _ _ (by rfl) B _ l (by rfl) hown g m cq (by rfl) ys HM.out HYC.out ?c2 ?c3 ?_)
 case c2 => omega
 case c3 => omega
 intro v' w2 hown2 hb2 hg2
 have HO2 : Hid (Others b w w2) := hZ9 (HO1.out.trans (Others.grown hg2 HOW.out) hsz0)
 obtain ⟨a2, cp2, rfl⟩ := hown2.form
 obtain ⟨d0, d1, f1, hfin⟩ := BldU.stored HBK.out hlt hB hg2 HNE.out hown2
 rw [show (l ++ ys).length = l.length + ys.length from List.length_append] at hfin
 have HFIN := hZ9 hfin
 clear hfin
 go_wp2_with fail
 go_ret2
 exact ⟨rfl, HFIN.out, (hb1.trans hb2).setCell (p := ⟨b, 1, none⟩) hB _, HO2.out.setCell 1 _⟩
theorem writeString_k (B b : Nat) (l : List UInt8) (s : ByteArray) (w : World) (h : Bld B b l w) (hl : l.length + s.size <= 900000000) (hBw : B <= w.heap.size) :
  Calls Tryz.prog 42 #[.pointer (some ⟨b, 0, none⟩), .string s] w fun e w' => e = .returned (.tuple #[.int .i64 s.size, .nilIface]) /\ BldU B b (l ++ s.data.toList) w' /\ Below B w w' /\ Others b w w' := by
 obtain ⟨i0, hi, hz0, hz1, hz2⟩ := info_parts infoU8
 have HI := hZ9 hi
 have hcc := copyCheck_c B b l w h
 clear h hi
 go_enter Tryz.func42, Tryz.ntmps42
 go_wp2_with fail
 refine hcc.mono ?_; rintro e w1 ⟨rfl, hu, hb1, hfr, hsz0⟩
 obtain ⟨v, hbk, hown, hne, hlt, hB, c0, c1⟩ := hu.open_
 obtain ⟨a, cp, rfl⟩ := hown.form
 have hsz := hb1.size
 have HOW := hZ9 hown
 have HNE := hZ9 hne
 have HBK := hZ9 hbk
 have hown1 : w1.ownsRow B 5 1 (.slice a l.length cp) l.length (l.map byteV) := hown
 have HO1 := hZ9 (Others.of_ne hfr)
 clear hcc hne hbk hu hown hfr
 go_wp2_with (at_builtin; refine Lib.wpList_append_own_string _ (by rfl) _ _ 61 9 (by rfl) B 5 i0 Tryz.underlying61 Tryz.underlying9 HI.out hz0 hz1 hz2 _ _ _ (by rfl) hown1 s (by rfl) ?c3 ?c4 ?c5 ?_)
 case c3 => unfold maxLen; omega
 case c4 => omega
 case c5 => omega
 intro v' w2 hown2 hg2 _
 have HO2 : Hid (Others b w w2) := hZ9 (HO1.out.trans (Others.grown hg2 HOW.out) hsz0)
 have hcells : Lib.strCells s = s.data.toList.map byteV := by
  unfold Lib.strCells byteV; first | rfl | simp
 have hown3 : OwnB w2 B v' (l ++ s.data.toList) := by
  unfold OwnB
  rw [List.map_append, List.length_append, <- Lib.size_eq, <- hcells]
  exact hown2
 clear hown2
 obtain ⟨a2, cp2, rfl⟩ := hown3.form
 obtain ⟨d0, d1, f1, hfin⟩ := BldU.stored HBK.out hlt hB hg2 HNE.out hown3
 rw [show (l ++ s.data.toList).length = l.length + s.data.toList.length from List.length_append] at hfin
 have HFIN := hZ9 hfin
 have hb2 : Below B w1 w2 := (Below.refl B w1).grown hg2 (by omega) (fun k hk => (World.ownsRow.lt hown1 k hk).1)
 clear hfin
 go_wp2_with fail
 go_ret2
 exact ⟨rfl, by first | exact HFIN.out | simpa using HFIN.out, (hb1.trans hb2).setCell (p := ⟨b, 1, none⟩) hB _, HO2.out.setCell 1 _⟩
end
section
open Go.RowKit
theorem StrsIn.cells {w : World} {a : Option Addr} {n c : Nat} {xs : List (List UInt8)} (h : StrsIn w (.slice a n c) xs) : xs.length = n /\ n <= c /\ ∀ (k : Nat) (y : List UInt8), xs[k]? = some y -> ∃ g o, a = some ⟨g, o, none⟩ /\ g < w.heap.size /\ w.cell? ⟨g, o + k, none⟩ = some (strV y) := by
 obtain ⟨a', c', e, hc, hcase⟩ := h
 cases e
 refine ⟨rfl, hc, fun k y hk => ?_⟩
 rcases hcase with rfl | ⟨g, o, rfl, hg, hcell⟩
 · simp at hk
 · exact ⟨g, o, rfl, hg, hcell k y hk⟩
theorem Own.kept {w w' : World} {B : Nat} {v : Value} {xs : List (List UInt8)} (h : Own w B v xs) (hb : ∀ k, v.ownBlock = some k -> w'.heap[k]? = w.heap[k]?) : Own w' B v xs := by
 refine ⟨h.1, ?_⟩
 rcases h.2 with h | ⟨g, cap, cur, rfl, hg, hh, hn, hm, hsz, htk⟩
 · exact .inl h
 · exact .inr ⟨g, cap, cur, rfl, hg, (hb g rfl).trans hh, hn, hm, hsz, htk⟩
theorem StrsIn.kept {w w' : World} {B : Nat} {v : Value} {xs ys : List (List UInt8)} (ho : Own w B v ys) (h : StrsIn w v xs) (hs : w.heap.size <= w'.heap.size) (hb : ∀ k, v.ownBlock = some k -> w'.heap[k]? = w.heap[k]?) : StrsIn w' v xs := by
 obtain ⟨a, c, rfl, hc, hcase⟩ := h
 refine ⟨a, c, rfl, hc, ?_⟩
 rcases hcase with h | ⟨g, o, rfl, hg, hcell⟩
 · exact .inl h
 · refine .inr ⟨g, o, rfl, Nat.lt_of_lt_of_le hg hs, fun j y hj => ?_⟩
   have ho2 : (Value.slice (some ⟨g, o, none⟩) xs.length c).ownBlock = some g := rfl
   exact (World.cell?_of_block (a := ⟨g, o + j, none⟩) (hb g ho2)).trans (hcell j y hj)
end
end Go.Proofs.YtjmfknfponjgkaaGreatDoor
