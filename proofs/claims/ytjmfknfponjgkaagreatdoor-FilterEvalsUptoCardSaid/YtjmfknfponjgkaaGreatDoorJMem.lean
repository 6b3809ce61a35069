/- Small facts on memory, of no program: a block known whole; a world that differs from another one in new blocks alone. Conditions: as stated. -/
import Derived.WalkKit
import Derived.WalkSpells
import Derived.WalkLawsBesides
import Derived.Lib.Hide
import Derived.Handy
import Derived.Deep.Draws
import Derived.Lib.ConvBytes
import Derived.Laws.IdiomStrings
import Derived.Laws.BytesString
import Derived.Deep.RegionWith
import Derived.Deep.QuietTactic
import Derived.BigQuiet
import Derived.Laws.AppendOwn
import Derived.Laws.AppendOwnNone
import Derived.Test.YtjmfknfponjgkaaGreatDoorJShelf
import Derived.Test.YtjmfknfponjgkaaGreatDoorJPhS
namespace Go.Proofs.YtjmfknfponjgkaaGreatDoor
theorem hZ9 {p : Prop} (h : p) : Go.RowKit.Hid p := h
section
open Go.RowKit
theorem cell_lt {w : World} {a : Addr} {v : Value} (h : w.cell? a = some v) : a.block < w.heap.size := by
 rcases Nat.lt_or_ge a.block w.heap.size with hlt | hge
 · exact hlt
 · unfold World.cell? at h
   rw [Array.getElem?_eq_none hge] at h
   cases h
theorem below_cell {B : Nat} {w w' : World} (hb : Below B w w') (hB : w.heap.size <= B) {a : Addr} {v : Value} (h : w.cell? a = some v) : w'.cell? a = some v := by
 rw [hb.cell (Nat.lt_of_lt_of_le (cell_lt h) hB)]; exact h
theorem below_trans {a b c : World} (h : Below a.heap.size a b) (k : Below b.heap.size b c) : Below a.heap.size a c := h.trans (k.mono h.size)
theorem below_alloc {a b : World} (h : Below a.heap.size a b) (o : Obj) : Below a.heap.size a (b.alloc o) := h.alloc h.size o
theorem grow1 (w : World) (o : Obj) : Below w.heap.size w (w.alloc o) := (Below.refl _ _).alloc (Nat.le_refl _) o
theorem keepC {w w' : World} {a : Addr} {v : Value} (h : w.cell? a = some v) (hb : Below w.heap.size w w') : w'.cell? a = some v := below_cell hb (Nat.le_refl _) h
theorem below_drewN (w : World) (k : Nat) : Below w.heap.size w (w.drewN k) := ⟨rfl, rfl, rfl, Nat.le_refl _, fun _ _ => rfl⟩
def Whole (w : World) (g : Nat) (t : TypeId) (cs : Array Value) : Prop := w.heap[g]? = some (.cells cs t (0, 0))
theorem Whole.lt {w : World} {g : Nat} {t : TypeId} {cs : Array Value} (h : Whole w g t cs) : g < w.heap.size := by
 unfold Whole at h
 exact (Array.getElem?_eq_some_iff.1 h).1
theorem Whole.cell {w : World} {g : Nat} {t : TypeId} {cs : Array Value} (h : Whole w g t cs) (i : Nat) : w.cell? ⟨g, i, none⟩ = cs[i]? := by
 unfold Whole at h
 unfold World.cell?
 simp only [h]
 rfl
theorem Whole.thaw {w : World} {g : Nat} {t : TypeId} {cs : Array Value} (h : Whole w g t cs) (i : Nat) : w.frozen? ⟨g, i, none⟩ = false := by
 unfold Whole at h
 simp [World.frozen?, h]
theorem Whole.made (w : World) (t : TypeId) (cs : Array Value) : Whole (w.alloc (.cells cs t)) w.heap.size t cs := by
 show (w.heap.push _)[w.heap.size]? = _
 rw [Array.getElem?_push_size]
theorem Whole.drew {w : World} {g : Nat} {t : TypeId} {cs : Array Value} (h : Whole w g t cs) : Whole w.drew g t cs := h
theorem Whole.drewN {w : World} {g : Nat} {t : TypeId} {cs : Array Value} (h : Whole w g t cs) (k : Nat) : Whole (w.drewN k) g t cs := h
theorem Whole.below {B : Nat} {w w' : World} {g : Nat} {t : TypeId} {cs : Array Value} (h : Whole w g t cs) (hb : Below B w w') (hg : g < B) : Whole w' g t cs := (hb.block g hg).trans h
theorem Whole.alloc {w : World} {g : Nat} {t : TypeId} {cs : Array Value} (h : Whole w g t cs) (o : Obj) : Whole (w.alloc o) g t cs := h.below ((Below.refl w.heap.size w).alloc (Nat.le_refl _) o) h.lt
theorem Whole.call {w w' : World} {g : Nat} {t : TypeId} {cs : Array Value} (h : Whole w g t cs) (hb : Below w.heap.size w w') : Whole w' g t cs := h.below hb h.lt
theorem Whole.put {w : World} {g : Nat} {t : TypeId} {cs : Array Value} (h : Whole w g t cs) (i : Nat) (v : Value) : Whole (w.setCell ⟨g, i, none⟩ v) g t (cs.setIfInBounds i v) := by
 unfold Whole at h ⊢
 simp [World.setCell, Array.getElem?_modify, h]
theorem Whole.other {w : World} {g : Nat} {t : TypeId} {cs : Array Value} (h : Whole w g t cs) {p : Addr} (hp : g ≠ p.block) (v : Value) : Whole (w.setCell p v) g t cs :=
 (Below.heap_setCell w p v g hp).trans h
def True_ (w : World) (e : Ending) (w' : World) : Prop := e = .returned (.bool true) /\ Below w.heap.size w w'
end
section
open Go.RowKit
def BytesIn (w : World) (b : Nat) (l : List UInt8) : Prop :=
 b < w.heap.size /\ ∀ (j : Nat) (h : j < l.length), w.cell? ⟨b, j, none⟩ = some (.int .u8 (l[j].toNat : Int)) /\ w.frozen? ⟨b, j, none⟩ = false
theorem BytesIn.cell {w : World} {b : Nat} {l : List UInt8} (h : BytesIn w b l) {j : Nat} (hj : j < l.length) : w.cell? ⟨b, j, none⟩ = some (.int .u8 (l[j].toNat : Int)) := (h.2 j hj).1
theorem BytesIn.thaw {w : World} {b : Nat} {l : List UInt8} (h : BytesIn w b l) {j : Nat} (hj : j < l.length) : w.frozen? ⟨b, j, none⟩ = false := (h.2 j hj).2
theorem BytesIn.call {w w' : World} {b : Nat} {l : List UInt8} (h : BytesIn w b l) (hb : Below w.heap.size w w') : BytesIn w' b l :=
 ⟨Nat.lt_of_lt_of_le h.1 hb.size, fun j hj => ⟨(hb.cell (p := ⟨b, j, none⟩) h.1).trans (h.cell hj), (hb.frozen (p := ⟨b, j, none⟩) h.1).trans (h.thaw hj)⟩⟩
theorem BytesIn.drew {w : World} {b : Nat} {l : List UInt8} (h : BytesIn w b l) : BytesIn w.drew b l := h
theorem BytesIn.drewN {w : World} {b : Nat} {l : List UInt8} (h : BytesIn w b l) (k : Nat) : BytesIn (w.drewN k) b l := h
theorem BytesIn.alloc {w : World} {b : Nat} {l : List UInt8} (h : BytesIn w b l) (o : Obj) : BytesIn (w.alloc o) b l := h.call ((Below.refl _ _).alloc (Nat.le_refl _) o)
theorem BytesIn.put {w : World} {b : Nat} {l : List UInt8} (h : BytesIn w b l) (i : Nat) (c : UInt8) : BytesIn (w.setCell ⟨b, i, none⟩ (.int .u8 (c.toNat : Int))) b (l.set i c) := by
 refine ⟨by simpa [World.setCell] using h.1, fun j hj => ?_⟩
 have hj' : j < l.length := by simpa using hj
 have h1 := h.cell hj'
 have h2 := h.thaw hj'
 refine ⟨?_, by rw [World.frozen?_setCell]; exact h2⟩
 by_cases he : i = j
 · subst he
   simp only [List.getElem_set_self]
   exact World.cell?_setCell_same _ _ _ h1
 · rw [List.getElem_set_ne he]
   rw [World.cell?_setCell_other _ _ _ _ (by intro e; injection e with e1 e2; exact he e2)]
   exact h1
theorem BytesIn.conv (w : World) (e : TypeId) (s : ByteArray) : BytesIn (Lib.bytesWorld w e s) w.heap.size s.data.toList := by
 refine ⟨by rw [Lib.bytesWorld_size]; omega, fun j hj => ?_⟩
 have hj' : j < s.size := by simpa using hj
 refine ⟨?_, ?_⟩
 · rw [Lib.bytesWorld_cell w e s j hj']
   simp [List.getD, hj']
 · have hs : j < (Lib.bytesCells w e s).size := by unfold Lib.bytesCells; simp; omega
   simp [World.frozen?, Lib.bytesWorld_at_new]
   omega
theorem BytesIn.back {P : Program} {w : World} {b : Nat} {l : List UInt8} (h : BytesIn w b l) (src dst e : TypeId) (n cap : Nat) (hn : l.length = n) (hs : P.underlying src = some (.slice e)) (he : P.underlying e = some (.int .u8)) (hd : P.underlying dst = some .string) :
  (convert src dst (.slice (some ⟨b, 0, none⟩) n cap)).run P w = .ok (.string ⟨l.toArray⟩) w := by
 subst hn
 refine run_convert_bytes_back w src dst e ⟨b, 0, none⟩ cap l hs he hd fun j hj => ?_
 have hadd : (⟨b, 0, none⟩ : Addr).add j = ⟨b, j, none⟩ := by unfold Addr.add; split <;> simp_all
 rw [hadd]
 exact h.cell hj
end
section
open Go.RowKit
structure Env (w : World) : Prop where
 maxLen : ∃ m, w.cell? ⟨0, 0, none⟩ = some (.int .i64 m)
 pow : Lib.TabIs Tryz.prog w "internal/strconv.uint64pow10" .u64 Lib.pow10Tab
 syn : ∃ tp p, w.cell? ⟨1, 0, none⟩ = some (.iface tp p)
 rng : ∃ tp p, w.cell? ⟨2, 0, none⟩ = some (.iface tp p)
 utf : Lib.Utf8Tabs 3 4 w
theorem var_below {w w' : World} {n : String} {cs : Array Value} (hb : Below w.heap.size w w') (h : w.var? Tryz.prog n = some cs) : w'.var? Tryz.prog n = some cs := by
 unfold World.var? at h ⊢
 cases hg : Tryz.prog.globalNamed n with
 | none => rw [hg] at h; cases h
 | some g =>
  rw [hg] at h
  have hlt : g < w.heap.size := by
   rcases Nat.lt_or_ge g w.heap.size with h' | h'
   · exact h'
   · simp [Array.getElem?_eq_none h'] at h
  simp only [Option.bind_some] at h ⊢
  rw [hb.block g hlt]
  exact h
theorem Env.below {w w' : World} (h : Env w) (hb : Below w.heap.size w w') : Env w' where
 maxLen := by obtain ⟨m, hm⟩ := h.maxLen; exact ⟨m, below_cell hb (Nat.le_refl _) hm⟩
 pow := var_below hb h.pow
 syn := by obtain ⟨m, p, hm⟩ := h.syn; exact ⟨m, p, below_cell hb (Nat.le_refl _) hm⟩
 rng := by obtain ⟨m, p, hm⟩ := h.rng; exact ⟨m, p, below_cell hb (Nat.le_refl _) hm⟩
 utf := ⟨fun c hc => below_cell hb (Nat.le_refl _) (h.utf.1 c hc), fun i hi => ⟨below_cell hb (Nat.le_refl _) (h.utf.2 i hi).1, below_cell hb (Nat.le_refl _) (h.utf.2 i hi).2⟩⟩
theorem Env.alloc {w : World} (h : Env w) (o : Obj) : Env (w.alloc o) := h.below ((Below.refl _ _).alloc (Nat.le_refl _) o)
theorem Env.drew {w : World} (h : Env w) : Env w.drew := h.below (Below.refl _ _).drew
theorem below_grow (w : World) (os : Array Obj) : Below w.heap.size w (Sort.grow w os) := by
 refine ⟨rfl, rfl, rfl, ?_, fun k hk => ?_⟩
 · show w.heap.size <= (w.heap ++ os).size
   simp
 · show (w.heap ++ os)[k]? = _
   rw [Array.getElem?_append_left hk]
theorem fmtInt (n : Int) (h0 : -9223372036854775808 <= n) (h1 : n <= 9223372036854775807) (w : World) (hE : Env w) :
  Calls Tryz.prog 127 #[.int .i64 n, .int .i64 10] w fun e w' => e = .returned (.string ⟨(Lib.itoa n).toArray⟩) /\ Below w.heap.size w w' :=
 (Tryz.strconv_FormatInt_10 n h0 h1 w hE.pow).mono fun e w' ⟨he, k, os, hw⟩ => ⟨he, by rw [hw]; exact below_trans (below_drewN w k) (below_grow _ _)⟩
theorem parseInt32_ok (s : ByteArray) (hs : s.size <= 281474976710656) (h : (PhS.readS s.data.toList).2 = true) (w : World) :
  Calls Tryz.prog 106 #[.string s, .int .i64 10, .int .i64 32] w fun e w' => e = .returned (.tuple #[.int .i64 (PhS.readS s.data.toList).1, .nilIface]) /\ Below w.heap.size w w' := by
 unfold PhS.readS at h ⊢
 cases hr : Lib.parseIntB 32 s.data.toList with
 | ok v =>
  refine (Tryz.strconv_ParseInt_10_at32_ok s (by omega) v hr w).mono ?_
  rintro e w' ⟨he, hw⟩
  refine ⟨he, ?_⟩
  rcases hw with rfl | ⟨t, rfl⟩
  · exact Below.refl _ _
  · exact Lib.bytesWorld_below _ _ _
 | _ => rw [hr] at h; cases h
theorem parseInt32_no (s : ByteArray) (hs : s.size <= 281474976710656) (h : (PhS.readS s.data.toList).2 = false) (w : World) (hE : Env w) :
  Calls Tryz.prog 106 #[.string s, .int .i64 10, .int .i64 32] w fun e w' => ∃ N, e = .returned (.tuple #[.int .i64 (PhS.readS s.data.toList).1, .iface 204 (.pointer (some ⟨N, 0, none⟩))]) /\ Below w.heap.size w w' := by
 unfold PhS.readS at h ⊢
 obtain ⟨tp, p, hsyn⟩ := hE.syn
 obtain ⟨tp', p', hrng⟩ := hE.rng
 cases hr : Lib.parseIntB 32 s.data.toList with
 | ok v => rw [hr] at h; cases h
 | range =>
  refine (Any.strconv_ParseInt_10_at32_range Tryz.laysC174 s hs hr (.iface tp' p') w hrng (Or.inr ⟨_, _, rfl⟩)).mono ?_
  rintro e w' ⟨N, he, _, _, hb⟩
  exact ⟨N, he, hb⟩
 | _ =>
  refine (Any.strconv_ParseInt_10_at32_syntax Tryz.laysC174 s hs hr (.iface tp p) w hsyn (Or.inr ⟨_, _, rfl⟩)).mono ?_
  rintro e w' ⟨N, he, _, _, hb⟩
  exact ⟨N, he, hb⟩
end
section
open Go.RowKit
def strV (l : List UInt8) : Value := .string ⟨l.toArray⟩
def StrsIn (w : World) (v : Value) (xs : List (List UInt8)) : Prop :=
 ∃ a c, v = .slice a xs.length c /\ xs.length <= c /\ (xs = [] \/ ∃ g o, a = some ⟨g, o, none⟩ /\ g < w.heap.size /\ ∀ (j : Nat) (y : List UInt8), xs[j]? = some y -> w.cell? ⟨g, o + j, none⟩ = some (strV y))
theorem StrsIn.call {w w' : World} {v : Value} {xs : List (List UInt8)} (h : StrsIn w v xs) {B : Nat} (hb : Below B w w') (hB : w.heap.size <= B) : StrsIn w' v xs := by
 obtain ⟨a, c, rfl, hc, h⟩ := h
 refine ⟨a, c, rfl, hc, ?_⟩
 rcases h with h | ⟨g, o, rfl, hg, h⟩
 · exact .inl h
 · exact .inr ⟨g, o, rfl, Nat.lt_of_lt_of_le hg hb.size, fun j y hj => (hb.cell (p := ⟨g, o + j, none⟩) (Nat.lt_of_lt_of_le hg hB)).trans (h j y hj)⟩
theorem StrsIn.empty (w : World) : StrsIn w (.slice none 0 0) [] := ⟨Option.none, 0, rfl, Nat.le_refl _, .inl rfl⟩
def Own (w : World) (B : Nat) (v : Value) (xs : List (List UInt8)) : Prop := w.ownsRow B 9 1 v xs.length (xs.map strV)
theorem Own.empty (w : World) (B : Nat) : Own w B (.slice none 0 0) [] := World.ownsRow_nil w B _ 1
theorem Own.form {w : World} {B : Nat} {v : Value} {xs : List (List UInt8)} (h : Own w B v xs) : ∃ a c, v = .slice a xs.length c := by
 rcases h.2 with ⟨rfl, hn⟩ | ⟨g, cap, cur, rfl, _⟩
 · exact ⟨_, _, by rw [hn]⟩
 · exact ⟨_, _, rfl⟩
theorem grown_none {w w' : World} (hb : Below w.heap.size w w') : w.grownBy w' none := ⟨hb.os, hb.tape, hb.output, hb.size, fun k hk _ => hb.block k hk⟩
theorem Own.call {w w' : World} {B : Nat} {v : Value} {xs : List (List UInt8)} (h : Own w B v xs) (hb : Below w.heap.size w w') : Own w' B v xs :=
 World.ownsRow.kept h (grown_none hb) (by cases v.ownBlock <;> simp)
theorem Own.alloc {w : World} {B : Nat} {v : Value} {xs : List (List UInt8)} (h : Own w B v xs) (o : Obj) : Own (w.alloc o) B v xs := World.ownsRow.alloc h o
theorem Own.mono {w : World} {B B' : Nat} {v : Value} {xs : List (List UInt8)} (h : Own w B v xs) (hB : B' <= B) : Own w B' v xs := by
 refine ⟨h.1, ?_⟩
 rcases h.2 with h | ⟨g, cap, cur, e, hg, rest⟩
 · exact .inl h
 · exact .inr ⟨g, cap, cur, e, Nat.le_trans hB hg, rest⟩
theorem Own.strs {w : World} {B : Nat} {v : Value} {xs : List (List UInt8)} (h : Own w B v xs) : StrsIn w v xs := by
 rcases h.2 with ⟨rfl, hn⟩ | ⟨g, cap, cur, rfl, hg, hh, hn, hm, hsz, htk⟩
 · exact ⟨Option.none, 0, by rw [hn], by omega, .inl (List.eq_nil_of_length_eq_zero hn)⟩
 · refine ⟨some ⟨g, 0, Option.none⟩, cap, rfl, hn, .inr ⟨g, 0, rfl, (Array.getElem?_eq_some_iff.1 hh).1, fun j y hj => ?_⟩⟩
   have := World.ownsRow.cells h (g := g) rfl j (strV y) (by rw [List.getElem?_map, hj]; rfl)
   have hadd : (⟨g, 0, Option.none⟩ : Addr).add j = ⟨g, 0 + j, Option.none⟩ := by unfold Addr.add; split <;> simp_all
   rw [hadd] at this
   exact this
theorem StrsIn.at {w : World} {g o : Nat} {xs : List (List UInt8)} (h : ∀ (j : Nat) (y : List UInt8), xs[j]? = some y -> w.cell? ⟨g, o + j, Option.none⟩ = some (strV y)) {k : Nat} (hk : k < xs.length) : w.cell? ⟨g, o + k, Option.none⟩ = some (strV xs[k]) := h k _ (List.getElem?_eq_getElem hk)
theorem infoStr : (Tryz.prog.info? 9).map (fun i => (i.zero, i.size, i.bytes)) = some (some (.string ⟨#[]⟩), 1, 16) := by kernel_rfl
theorem push_str {w : World} {ops : Array Oper} {rest : List Oper} {o : Oper} {a : Act} {Q : Exit -> Act -> World -> Prop} (hgd : o.guard = none) (s x : Operand)
  (ho : o.op = .call { callee := .builtin .append, args := #[s, x], argTypes := #[22, 22] })
  (B : Nat) (v : Value) (xs : List (List UInt8)) (hs : a.eval s = v) (hown : Own w B v xs) (g : Nat) (hx : a.eval x = .slice (some ⟨g, 0, Option.none⟩) 1 1)
  (y : List UInt8) (hc : w.cell? ⟨g, 0, Option.none⟩ = some (strV y)) (hn : xs.length <= 1000000000) (hB : B <= w.heap.size)
  (h : ∀ v' w', Own w' B v' (xs ++ [y]) -> Below B w w' -> wpList Tryz.prog ops Q rest (a.put o.dst v') w') : wpList Tryz.prog ops Q (o :: rest) a w := by
 obtain ⟨i0, hi, hz0, hz1, hz2⟩ := info_parts infoStr
 refine wpList_append_own w hgd s x _ ho B 9 i0 (.string ⟨#[]⟩) 1 16 Tryz.underlying22 hi hz0 hz1 hz2 rfl (by decide) v xs.length (xs.map strV) hs hown ⟨g, 0, Option.none⟩ 1 1 [strV y] hx rfl
  (fun j u hj => ?_) (fun u hu => ?_) (by unfold maxLen; omega) (by omega) hB (fun v' w' h1 h2 _ => h v' w' ?_ ?_)
 · have hj0 : j = 0 := by
    rcases Nat.eq_zero_or_pos j with h | h
    · exact h
    · rw [List.getElem?_eq_none (by simp; omega)] at hj; cases hj
   subst hj0
   have hadd : (⟨g, 0, Option.none⟩ : Addr).add 0 = ⟨g, 0, Option.none⟩ := by unfold Addr.add; split <;> simp_all
   rw [hadd, hc]
   simpa using hj
 · rw [List.mem_singleton] at hu; subst hu; rfl
 · unfold Own
   rw [List.map_append, List.length_append]
   exact h1
 · exact (Below.refl B w).grown h2 hB (fun k hk => (World.ownsRow.lt hown k hk).1)
end
section
open Go.RowKit
def byteV (c : UInt8) : Value := .int .u8 (c.toNat : Int)
def OwnB (w : World) (B : Nat) (v : Value) (l : List UInt8) : Prop := w.ownsRow B 5 1 v l.length (l.map byteV)
theorem OwnB.empty (w : World) (B : Nat) : OwnB w B (.slice none 0 0) [] := World.ownsRow_nil w B _ 1
theorem OwnB.form {w : World} {B : Nat} {v : Value} {l : List UInt8} (h : OwnB w B v l) : ∃ a c, v = .slice a l.length c := by
 rcases h.2 with ⟨rfl, hn⟩ | ⟨g, cap, cur, rfl, _⟩
 · exact ⟨_, _, by rw [hn]⟩
 · exact ⟨_, _, rfl⟩
theorem OwnB.call {w w' : World} {B : Nat} {v : Value} {l : List UInt8} (h : OwnB w B v l) (hb : Below w.heap.size w w') : OwnB w' B v l :=
 World.ownsRow.kept h (grown_none hb) (by cases v.ownBlock <;> simp)
theorem OwnB.alloc {w : World} {B : Nat} {v : Value} {l : List UInt8} (h : OwnB w B v l) (o : Obj) : OwnB (w.alloc o) B v l := World.ownsRow.alloc h o
theorem infoU8 : (Tryz.prog.info? 5).map (fun i => (i.zero, i.size, i.bytes)) = some (some (.int .u8 0), 1, 1) := by kernel_rfl
theorem push_bytes_g {w : World} {ops : Array Oper} {rest : List Oper} {o : Oper} {a : Act} {Q : Exit -> Act -> World -> Prop} (hgd : o.guard = none) (s x : Operand)
  (ho : o.op = .call { callee := .builtin .append, args := #[s, x], argTypes := #[61, 61] })
  (B : Nat) (v : Value) (l : List UInt8) (hs : a.eval s = v) (hown : OwnB w B v l) (g m c : Nat) (hx : a.eval x = .slice (some ⟨g, 0, none⟩) m c)
  (ys : List UInt8) (hm : ys.length = m) (hc : ∀ (j : Nat) (y : UInt8), ys[j]? = some y -> w.cell? ⟨g, j, none⟩ = some (byteV y)) (hn : l.length + m <= 1000000000) (hB : B <= w.heap.size)
  (h : ∀ v' w', OwnB w' B v' (l ++ ys) -> Below B w w' -> w.grownBy w' v.ownBlock -> wpList Tryz.prog ops Q rest (a.put o.dst v') w') : wpList Tryz.prog ops Q (o :: rest) a w := by
 obtain ⟨i0, hi, hz0, hz1, hz2⟩ := info_parts infoU8
 subst hm
 refine wpList_append_own w hgd s x _ ho B 5 i0 (.int .u8 0) 1 1 Tryz.underlying61 hi hz0 hz1 hz2 rfl (by decide) v l.length (l.map byteV) hs hown ⟨g, 0, none⟩ ys.length c (ys.map byteV) hx (by simp)
  (fun j u hj => ?_) (fun u hu => ?_) (by unfold maxLen; omega) (by omega) hB (fun v' w' h1 h2 _ => h v' w' ?_ ?_ h2)
 · rw [List.getElem?_map] at hj
   cases hy : ys[j]? with
   | none => rw [hy] at hj; cases hj
   | some y =>
    rw [hy] at hj
    have hj := Option.some.inj hj
    subst hj
    have hadd : (⟨g, 0, none⟩ : Addr).add j = ⟨g, j, none⟩ := by unfold Addr.add; split <;> simp_all
    rw [hadd]
    exact hc j y hy
 · obtain ⟨y, _, rfl⟩ := List.mem_map.1 hu; rfl
 · unfold OwnB
   rw [List.map_append, List.length_append]
   exact h1
 · exact (Below.refl B w).grown h2 hB (fun k hk => (World.ownsRow.lt hown k hk).1)
theorem push_bytes {w : World} {ops : Array Oper} {rest : List Oper} {o : Oper} {a : Act} {Q : Exit -> Act -> World -> Prop} (hgd : o.guard = none) (s x : Operand)
  (ho : o.op = .call { callee := .builtin .append, args := #[s, x], argTypes := #[61, 61] })
  (B : Nat) (v : Value) (l : List UInt8) (hs : a.eval s = v) (hown : OwnB w B v l) (g m c : Nat) (hx : a.eval x = .slice (some ⟨g, 0, none⟩) m c)
  (ys : List UInt8) (hm : ys.length = m) (hc : ∀ (j : Nat) (y : UInt8), ys[j]? = some y -> w.cell? ⟨g, j, none⟩ = some (byteV y)) (hn : l.length + m <= 1000000000) (hB : B <= w.heap.size)
  (h : ∀ v' w', OwnB w' B v' (l ++ ys) -> Below B w w' -> wpList Tryz.prog ops Q rest (a.put o.dst v') w') : wpList Tryz.prog ops Q (o :: rest) a w :=
 push_bytes_g hgd s x ho B v l hs hown g m c hx ys hm hc hn hB (fun v' w' h1 h2 _ => h v' w' h1 h2)
theorem one_cell {w : World} {g : Nat} {y : UInt8} (h : w.cell? ⟨g, 0, none⟩ = some (byteV y)) : ∀ (j : Nat) (z : UInt8), [y][j]? = some z -> w.cell? ⟨g, j, none⟩ = some (byteV z) := by
 intro j z hz
 match j, hz with
 | 0, hz => have := Option.some.inj hz; subst this; exact h
theorem one_list (c : UInt8) : ∀ (j : Nat) (y : UInt8), [c][j]? = some y -> [Value.int IntKind.u8 (c.toNat : Int)][j]? = some (byteV y) := by
 intro j z hz
 match j, hz with
 | 0, hz => have := Option.some.inj hz; subst this; rfl
theorem two_cells {w : World} {g : Nat} {y0 y1 : UInt8} (h0 : w.cell? ⟨g, 0, none⟩ = some (byteV y0)) (h1 : w.cell? ⟨g, 1, none⟩ = some (byteV y1)) : ∀ (j : Nat) (z : UInt8), [y0, y1][j]? = some z -> w.cell? ⟨g, j, none⟩ = some (byteV z) := by
 intro j z hz
 match j, hz with
 | 0, hz => have := Option.some.inj hz; subst this; exact h0
 | 1, hz => have := Option.some.inj hz; subst this; exact h1
theorem three_cells {w : World} {g : Nat} {y0 y1 y2 : UInt8} (h0 : w.cell? ⟨g, 0, none⟩ = some (byteV y0)) (h1 : w.cell? ⟨g, 1, none⟩ = some (byteV y1)) (h2 : w.cell? ⟨g, 2, none⟩ = some (byteV y2)) :
  ∀ (j : Nat) (z : UInt8), [y0, y1, y2][j]? = some z -> w.cell? ⟨g, j, none⟩ = some (byteV z) := by
 intro j z hz
 match j, hz with
 | 0, hz => have := Option.some.inj hz; subst this; exact h0
 | 1, hz => have := Option.some.inj hz; subst this; exact h1
 | 2, hz => have := Option.some.inj hz; subst this; exact h2
theorem OwnB.back {w : World} {B : Nat} {v : Value} {l : List UInt8} (h : OwnB w B v l) : (convert 61 9 v).run Tryz.prog w = .ok (.string ⟨l.toArray⟩) w := by
 rcases h.2 with ⟨rfl, hn⟩ | ⟨g, cap, cur, rfl, hg, hh, hn, hm, hsz, htk⟩
 · have hl := List.eq_nil_of_length_eq_zero hn
   subst hl
   rw [run_convert_bytes_string w _ _ 5 none 0 0 Tryz.underlying61 Tryz.underlying5 Tryz.underlying9]
   rfl
 · refine run_convert_bytes_back w _ _ 5 ⟨g, 0, none⟩ cap l Tryz.underlying61 Tryz.underlying5 Tryz.underlying9 fun j hj => ?_
   exact World.ownsRow.cells h (g := g) rfl j (byteV l[j]) (by simp [hj])
end
section
open Go.RowKit
theorem append_nil_run {w : World} {B : Nat} {v : Value} {n : Nat} {xs : List Value} (ty : TypeId) (hown : w.ownsRow B 9 1 v n xs) (c : Nat) : (Builtin.append_ #[22, 22] ty #[v, .slice none 0 c]).run Tryz.prog w = .ok v w := by
 obtain ⟨i0, hi, hz0, hz1, hz2⟩ := info_parts infoStr
 have hu := run_underlying Tryz.underlying22
 rcases hown.2 with ⟨rfl, rfl⟩ | ⟨g, cap, cur, rfl, _, _, hnc, _⟩
 · simp [Builtin.append_, hu, sizeOf, typeInfo, hi, Builtin.lenOf, Builtin.firstCells]
 · simp [Builtin.append_, hu, sizeOf, typeInfo, hi, Builtin.lenOf, Builtin.firstCells, hnc, storeCells]
theorem push_strs {w : World} {ops : Array Oper} {rest : List Oper} {o : Oper} {a : Act} {Q : Exit -> Act -> World -> Prop} (hgd : o.guard = none) (s x : Operand)
  (ho : o.op = .call { callee := .builtin .append, args := #[s, x], argTypes := #[22, 22] })
  (B : Nat) (v : Value) (xs : List (List UInt8)) (hs : a.eval s = v) (hown : Own w B v xs) (u : Value) (ys : List (List UInt8)) (hx : a.eval x = u) (hin : StrsIn w u ys)
  (hn : xs.length + ys.length <= 1000000000) (hB : B <= w.heap.size)
  (h : ∀ v' w', Own w' B v' (xs ++ ys) -> Below B w w' -> wpList Tryz.prog ops Q rest (a.put o.dst v') w') : wpList Tryz.prog ops Q (o :: rest) a w := by
 obtain ⟨A, c, rfl, hc, hcase⟩ := hin
 obtain ⟨i0, hi, hz0, hz1, hz2⟩ := info_parts infoStr
 cases A with
 | none =>
  rcases hcase with rfl | ⟨g, o, e, _⟩
  · refine wpList_plain hgd fun K hK => ?_
    have hrun := append_nil_run o.type hown c
    unfold Oper.wp
    simp [execOp, ho, resolve, invoke, builtin, hs, hx, hrun, Result.andThen]
    exact hK _ _ (h v w (by rw [List.append_nil]; exact hown) (Below.refl B w))
  · cases e
 | some ad =>
  refine wpList_append_own w hgd s x _ ho B 9 i0 (.string ⟨#[]⟩) 1 16 Tryz.underlying22 hi hz0 hz1 hz2 rfl (by decide) v xs.length (xs.map strV) hs hown ad ys.length c (ys.map strV) hx (by simp)
   (fun j y hj => ?_) (fun y hy => ?_) (by unfold maxLen; omega) (by omega) hB (fun v' w' h1 h2 _ => h v' w' ?_ ?_)
  · rcases hcase with rfl | ⟨g, o, e, hg, hcell⟩
    · simp at hj
    · cases e
      rw [List.getElem?_map] at hj
      obtain ⟨t, ht, rfl⟩ := Option.map_eq_some_iff.1 hj
      have hadd : (⟨g, o, Option.none⟩ : Addr).add j = ⟨g, o + j, Option.none⟩ := by unfold Addr.add; split <;> simp_all
      rw [hadd]
      exact hcell j t ht
  · obtain ⟨t, _, rfl⟩ := List.mem_map.1 hy
    rfl
  · unfold Own
    rw [List.map_append, List.length_append]
    exact h1
  · exact (Below.refl B w).grown h2 hB (fun k hk => (World.ownsRow.lt hown k hk).1)
theorem StrsIn.drop {w : World} {a : Option Addr} {n c : Nat} {xs : List (List UInt8)} (h : StrsIn w (.slice a n c) xs) {k : Nat} (hk : k <= n) (hne : 0 < n) : ∃ g o, a = some ⟨g, o, none⟩ /\ StrsIn w (.slice (some ⟨g, o + k, none⟩) (n - k) (c - k)) (xs.drop k) := by
 obtain ⟨a', c', e, hc, hcase⟩ := h
 cases e
 rcases hcase with rfl | ⟨g, o, rfl, hg, hcell⟩
 · simp at hne
 · refine ⟨g, o, rfl, some ⟨g, o + k, none⟩, c - k, by rw [List.length_drop], by rw [List.length_drop]; omega, .inr ⟨g, o + k, rfl, hg, fun j y hj => ?_⟩⟩
   rw [List.getElem?_drop] at hj
   rw [Nat.add_assoc]
   exact hcell _ y hj
theorem StrsIn.take {w : World} {a : Option Addr} {n c : Nat} {xs : List (List UInt8)} (h : StrsIn w (.slice a n c) xs) {k : Nat} (hk : k <= n) : StrsIn w (.slice a k c) (xs.take k) := by
 obtain ⟨a', c', e, hc, hcase⟩ := h
 cases e
 have hl : (xs.take k).length = k := by rw [List.length_take]; omega
 refine ⟨a, c, by rw [hl], by rw [hl]; omega, ?_⟩
 rcases hcase with rfl | ⟨g, o, rfl, hg, hcell⟩
 · exact .inl (by simp)
 · refine .inr ⟨g, o, rfl, hg, fun j y hj => ?_⟩
   rw [List.getElem?_take] at hj
   split at hj
   · exact hcell j y hj
   · cases hj
theorem StrsIn.nil (w : World) (a : Option Addr) (c : Nat) : StrsIn w (.slice a 0 c) [] := ⟨a, c, rfl, Nat.zero_le _, .inl rfl⟩
theorem StrsIn.form {w : World} {v : Value} {xs : List (List UInt8)} (h : StrsIn w v xs) : ∃ a c, v = .slice a xs.length c := by
 obtain ⟨a, c, e, _⟩ := h
 exact ⟨a, c, e⟩
end
end Go.Proofs.YtjmfknfponjgkaaGreatDoor
